/- The walks of table's New, Ask, Accept, Reject, use, Sell, Buy, Undo. Printed by wip/tabb.py. -/
import Derived.Test.YtibjkpejbihcpaaTabA
namespace Go.Proofs.Ytibjkpejbihcpaa
open Go.RowKit

/-- a table behind a call that touches it alone -/
def TRes (w : World) (tb mb : Nat) (M : QM) (n : Nat) (k : Nat) (e : Ending) (w' : World) : Prop := e = .returned (.int .i64 ((k : Nat) : Int)) ∧ TabAt w' tb mb M n ∧ Far mb w w'
theorem TRes.same {w w' : World} {tb mb n k : Nat} {M : QM} {z : Int} (hz : z = ((k : Nat) : Int)) (h : TabAt w tb mb M n) (hb : Below w.heap.size w w') : TRes w tb mb M n k (.returned (.int .i64 z)) w' := ⟨by rw [hz], h.below hb, Far.of hb⟩
def NewRes (w : World) (e : Ending) (w' : World) : Prop := ∃ tb mb, e = .returned (.pointer (some ⟨tb, 0, none⟩)) ∧ TabAt w' tb mb (fun _ => none) 0 ∧ w.heap.size ≤ tb ∧ w.heap.size ≤ mb ∧ Below w.heap.size w w'
set_option maxHeartbeats 1000000 in
theorem tnew_walk (w : World) : Calls Try.prog 9 #[] w (NewRes w) := by
  have hmm := @run_makeMap Try.prog
  have m1 := MapIs.made (E := EH) w
  have A2 := alloc2p w (.map #[] 0) (.cells #[.map (some w.heap.size)] 67)
  have hT : TabAt ((w.alloc (.map #[] 0)).alloc (.cells #[.map (some w.heap.size)] 67)) (w.heap.size + 1) w.heap.size (fun _ => none) 0 :=
    ⟨by rw [cell_of_row _ (w.heap.size + 1) _ _ _ (0, 0) A2.2.1]; rfl, m1.below ((Below.refl _ _).alloc (Nat.le_refl _) _), fun _ _ h => (by cases h), by decide, by omega⟩
  have F := hid (show NewRes w (.returned (.pointer (some ⟨w.heap.size + 1, 0, none⟩))) _ from ⟨_, _, rfl, hT, by omega, Nat.le_refl _, A2.2.2.2⟩)
  clear hT A2 m1
  go_enter Try.func9, Try.ntmps9
  go_wp2
  go_ret
  exact F.out
theorem eqz_run {xs : List Nat} (hx : EH.ok xs) : ∀ w : World, (binOp .eql 30 (.agg (nums .u8 xs).toArray) (.agg #[.int .u8 0, .int .u8 0, .int .u8 0, .int .u8 0, .int .u8 0, .int .u8 0, .int .u8 0, .int .u8 0, .int .u8 0, .int .u8 0, .int .u8 0, .int .u8 0, .int .u8 0, .int .u8 0, .int .u8 0, .int .u8 0, .int .u8 0, .int .u8 0, .int .u8 0, .int .u8 0, .int .u8 0, .int .u8 0, .int .u8 0, .int .u8 0, .int .u8 0, .int .u8 0, .int .u8 0, .int .u8 0, .int .u8 0, .int .u8 0, .int .u8 0, .int .u8 0])).run Try.prog w = .ok (.bool (decide (xs = hz32))) w :=
  eql_hv (ys := hz32) hx.1 rfl hx.2 (by intro d hd; simp [hz32] at hd; omega)
theorem eqz_guard (xs : List Nat) : ∀ (op : BinOp) (x y : Operand) (w : World), (eqGuard op 30 x y (.agg (nums .u8 xs).toArray) (.agg #[.int .u8 0, .int .u8 0, .int .u8 0, .int .u8 0, .int .u8 0, .int .u8 0, .int .u8 0, .int .u8 0, .int .u8 0, .int .u8 0, .int .u8 0, .int .u8 0, .int .u8 0, .int .u8 0, .int .u8 0, .int .u8 0, .int .u8 0, .int .u8 0, .int .u8 0, .int .u8 0, .int .u8 0, .int .u8 0, .int .u8 0, .int .u8 0, .int .u8 0, .int .u8 0, .int .u8 0, .int .u8 0, .int .u8 0, .int .u8 0, .int .u8 0, .int .u8 0])).run Try.prog w = .ok () w := guard_hv xs hz32
theorem built_q' (a0 a1 a2 a3 a4 a5 a6 a7 a8 a9 a10 a11 a12 a13 a14 a15 a16 a17 a18 a19 a20 a21 a22 a23 a24 a25 a26 a27 a28 a29 a30 a31 b0 b1 b2 b3 b4 b5 b6 b7 b8 b9 b10 b11 b12 b13 b14 b15 b16 b17 b18 b19 b20 b21 b22 b23 b24 b25 b26 b27 b28 b29 b30 b31 m : Nat) (b : Bool) : Try.prog.built 43 [(0, .agg (nums .u8 [a0, a1, a2, a3, a4, a5, a6, a7, a8, a9, a10, a11, a12, a13, a14, a15, a16, a17, a18, a19, a20, a21, a22, a23, a24, a25, a26, a27, a28, a29, a30, a31]).toArray), (1, .agg (nums .u8 [b0, b1, b2, b3, b4, b5, b6, b7, b8, b9, b10, b11, b12, b13, b14, b15, b16, b17, b18, b19, b20, b21, b22, b23, b24, b25, b26, b27, b28, b29, b30, b31]).toArray), (2, .bool b), (3, .int .u64 (m : Int))] = some ((nums .u8 [a0, a1, a2, a3, a4, a5, a6, a7, a8, a9, a10, a11, a12, a13, a14, a15, a16, a17, a18, a19, a20, a21, a22, a23, a24, a25, a26, a27, a28, a29, a30, a31]) ++ (nums .u8 [b0, b1, b2, b3, b4, b5, b6, b7, b8, b9, b10, b11, b12, b13, b14, b15, b16, b17, b18, b19, b20, b21, b22, b23, b24, b25, b26, b27, b28, b29, b30, b31]) ++ [Value.bool b, Value.int .u64 (m : Int), Value.int .i64 0, Value.int .u64 0, Value.int .u64 0, Value.int .i64 0, Value.int .u64 0]).toArray := by kernel_rfl
theorem built_q (no id : List Nat) (b : Bool) (m : Nat) (h1 : no.length = 32) (h2 : id.length = 32) :
    Try.prog.built 43 [(0, .agg (nums .u8 no).toArray), (1, .agg (nums .u8 id).toArray), (2, .bool b), (3, .int .u64 (m : Int))] = some (Quo.cells ⟨no, id, b, m, 0, 0, 0, 0, 0⟩).toArray := by
  match no, h1, id, h2 with
  | [a0, a1, a2, a3, a4, a5, a6, a7, a8, a9, a10, a11, a12, a13, a14, a15, a16, a17, a18, a19, a20, a21, a22, a23, a24, a25, a26, a27, a28, a29, a30, a31], _, [b0, b1, b2, b3, b4, b5, b6, b7, b8, b9, b10, b11, b12, b13, b14, b15, b16, b17, b18, b19, b20, b21, b22, b23, b24, b25, b26, b27, b28, b29, b30, b31], _ => exact built_q' a0 a1 a2 a3 a4 a5 a6 a7 a8 a9 a10 a11 a12 a13 a14 a15 a16 a17 a18 a19 a20 a21 a22 a23 a24 a25 a26 a27 a28 a29 a30 a31 b0 b1 b2 b3 b4 b5 b6 b7 b8 b9 b10 b11 b12 b13 b14 b15 b16 b17 b18 b19 b20 b21 b22 b23 b24 b25 b26 b27 b28 b29 b30 b31 m b
theorem run_build4' {P : Program} {w : World} {o : Oper} {ev : Operand → Value} {t : TypeId} {x0 x1 x2 x3 : Operand} {v0 v1 v2 v3 : Value} {cells : Array Value} (ho : o.op = .build t #[(0, x0), (1, x1), (2, x2), (3, x3)])
    (h0 : ev x0 = v0) (h1 : ev x1 = v1) (h2 : ev x2 = v2) (h3 : ev x3 = v3) (hb : P.built t [(0, v0), (1, v1), (2, v2), (3, v3)] = some cells) : (execOp ev o).run P w = .ok (.value (.agg cells)) w := run_build4 ho h0 h1 h2 h3 hb
def askC (M : QM) (n : Nat) (no id : List Nat) (most : Nat) : Nat := if most = 0 ∨ id = hz32 then 1 else if (M no).isSome then 6 else if 256 ≤ n then 4 else 0
def askQ (no id : List Nat) (buy : Bool) (most : Nat) : Quo := ⟨no, id, buy, most, 0, 0, 0, 0, 0⟩
def askM (M : QM) (n : Nat) (no id : List Nat) (buy : Bool) (most : Nat) : QM := if askC M n no id most = 0 then updM M no (askQ no id buy most) else M
def askN (M : QM) (n : Nat) (no id : List Nat) (most : Nat) : Nat := if askC M n no id most = 0 then n + 1 else n
theorem ask_bad {w w' : World} {tb mb n k most : Nat} {M : QM} {no id : List Nat} {buy : Bool} {e : Ending} (h : askC M n no id most = k) (hk : k ≠ 0) (r : TRes w tb mb M n k e w') : TRes w tb mb (askM M n no id buy most) (askN M n no id most) (askC M n no id most) e w' := by
  unfold askM askN
  rw [if_neg (by omega), if_neg (by omega), h]
  exact r
theorem ask_good {w w' : World} {tb mb n most : Nat} {M : QM} {no id : List Nat} {buy : Bool} {e : Ending} (h : askC M n no id most = 0) (r : TRes w tb mb (updM M no (askQ no id buy most)) (n + 1) 0 e w') : TRes w tb mb (askM M n no id buy most) (askN M n no id most) (askC M n no id most) e w' := by
  unfold askM askN
  rw [if_pos h, if_pos h, h]
  exact r
set_option maxRecDepth 100000 in
set_option maxHeartbeats 8000000 in
theorem ask_walk (tb mb n : Nat) (M : QM) (no id : List Nat) (hno : EH.ok no) (hid' : EH.ok id) (buy : Bool) (most : Nat) (hmost : most < 18446744073709551616) (w : World) (h : TabAt w tb mb M n) :
    Calls Try.prog 10 #[.pointer (some ⟨tb, 0, none⟩), .agg (nums .u8 no).toArray, .agg (nums .u8 id).toArray, .bool buy, .int .u64 most] w
      (TRes w tb mb (askM M n no id buy most) (askN M n no id most) (askC M n no id most)) := by
  have HT := hid h
  have ZQ := zeroQ
  have hne := zQ_ne
  have unH := Try.underlying30
  have hiH : (Try.prog.info? 30).map (·.size) = some (nums .u8 no).length := by rw [nums_length, hno.1]; exact infoH
  have hiI : (Try.prog.info? 30).map (·.size) = some (nums .u8 id).length := by rw [nums_length, hid'.1]; exact infoH
  have A2 := alloc2p w (.cells (nums .u8 no).toArray 30) (.cells (nums .u8 id).toArray 30)
  have h1 := h.below A2.2.2.2
  have f2 := row_range A2.1
  have f4 := row_range A2.2.1
  have B1 := hid A2.2.2.2
  have f1 := h1.cell
  have f3 := h1.map
  have ez := eqz_run hid'
  have eg := eqz_guard id
  clear A2 h1 h
  by_cases hm0 : most = 0 ∨ id = hz32
  · have E := hid (show askC M n no id most = 1 from if_pos hm0)
    have F := hid (fun w' hb => ask_bad (buy := buy) E.out (by decide) (TRes.same (k := 1) (w' := w') (z := 1) rfl HT.out hb))
    by_cases hm : most = 0
    · have tm : ((most : Int) == 0) = true := by simp [hm]
      clear hm0 hm hmost
      go_enter Try.func10, Try.ntmps10
      go_wp2
      go_ret
      exact F.out _ B1.out
    · have tm : ((most : Int) == 0) = false := by simp; omega
      have ez' : id = hz32 := by rcases hm0 with h | h; exact absurd h hm; exact h
      rw [decide_eq_true ez'] at ez
      clear hm0 hm hmost ez'
      go_enter Try.func10, Try.ntmps10
      go_upto_region 1 with (fail)
      generalize (w.alloc (.cells (nums .u8 no).toArray 30)).alloc (.cells (nums .u8 id).toArray 30) = w1 at *
      go_wp2_with (refine wpList_load_midG rfl _ _ rfl (w.heap.size + 1) 0 rfl (nums .u8 id) _ f4 Try.underlying30 rfl hiI ?_)
      go_ret
      exact F.out _ B1.out
  · have tm : ((most : Int) == 0) = false := by simp; omega
    rw [decide_eq_false (fun h => hm0 (.inr h))] at ez
    have hm0' := hid hm0
    clear hm0
    have hmb := hid (show mb < w.heap.size from HT.out.map.lt)
    have hval := lookVal M no
    obtain ⟨q0, kn, hg0, hk0, hq, hMq⟩ := ans_cases M no HT.out.ok
    rw [hg0, hk0] at hval
    replace hval := hid hval
    have hq0 := hid hq
    have hq0i := hid (infoQa hq)
    have hq0z := hid (zQ_as hq)
    have hq0o := hid (all_oneCell_toArray (Quo.one q0))
    have HMq := hid hMq
    clear hg0 hk0 hq hMq
    go_enter Try.func10, Try.ntmps10
    go_upto_region 1 with (fail)
    generalize (w.alloc (.cells (nums .u8 no).toArray 30)).alloc (.cells (nums .u8 id).toArray 30) = w1 at *
    go_wp2_with (refine wpList_load_midG rfl _ _ rfl (w.heap.size + 1) 0 rfl (nums .u8 id) _ f4 Try.underlying30 rfl hiI ?_)
    obtain ⟨K, hK⟩ : ∃ K, K = w.heap.size := ⟨_, rfl⟩
    obtain ⟨K2, hK2⟩ : ∃ K, K = w.heap.size + 1 := ⟨_, rfl⟩
    rw [← hK2] at f4 ⊢
    rw [← hK] at f2 ⊢
    have hn1 := hid HT.out.ne
    have hn2 := hid (show K ≠ mb by have := hmb.out; omega)
    have hn3 := hid (show K2 ≠ mb by have := hmb.out; omega)
    clear hK hK2 ez eg tm
    have keepS : ∀ X Y : World, Below X.heap.size X Y → (X.cell? ⟨tb, 0, none⟩ = some (.map (some mb)) ∧ X.rangeAt K 0 (nums .u8 no) ∧ MapIs EH X mb (valM M) n) → (Y.cell? ⟨tb, 0, none⟩ = some (.map (some mb)) ∧ Y.rangeAt K 0 (nums .u8 no) ∧ MapIs EH Y mb (valM M) n) :=
      fun X Y hb h => ⟨cell_keep hb h.1, range_keep hb h.2.1, h.2.2.below hb⟩
    refine wp_region_held_drew (S := fun w' => w'.cell? ⟨tb, 0, none⟩ = some (.map (some mb)) ∧ w'.rangeAt K 0 (nums .u8 no) ∧ MapIs EH w' mb (valM M) n) (by kernel_rfl) (⟨f1, f2, f3⟩) (fun hHeld => ?_)
    try simp only [List.size_toArray, List.length_cons, List.length_nil, Nat.reduceAdd, Array.replicate_succ, Array.replicate_zero, List.push_toArray, List.nil_append, List.cons_append]
    refine wpAnyH_take (i := 0) (oi := { dst := some 25, op := Op.move (Operand.tmp 0), type := 27, pos := "table.go:45", after := #[], guard := none }) (v := ?v1001) rfl (by kernel_rfl) (by kernel_rfl) (by kernel_rfl) (fun _ _ _ h => h) (Or.inl ⟨by rfl, ?hy1001⟩) hHeld ?_
    case hy1001 => (intro w hSw; (try dsimp only at hSw); go_simp; (try with_reducible rfl))
    (try simp only [Act.put, List.setIfInBounds_toArray, List.set_cons_zero, List.set_cons_succ])
    refine wpAnyH_take (i := 1) (oi := { dst := some 26, op := Op.nilCheck (Operand.tmp 25), type := 0, pos := "table.go:45", after := #[{ on := 0, ground := Ground.data }], guard := none }) (v := ?v1002) rfl (by kernel_rfl) (by kernel_rfl) (by kernel_rfl) (fun _ _ _ h => h) (Or.inl ⟨by rfl, ?hy1002⟩) hHeld ?_
    case hy1002 => (intro w hSw; (try dsimp only at hSw); go_simp; (try with_reducible rfl))
    (try simp only [Act.put, List.setIfInBounds_toArray, List.set_cons_zero, List.set_cons_succ])
    refine wpAnyH_take (i := 2) (oi := { dst := some 27, op := Op.fieldAddr 67 (Operand.tmp 26) 0, type := 0, pos := "table.go:45", after := #[{ on := 1, ground := Ground.data }], guard := none }) (v := ?v1003) rfl (by kernel_rfl) (by kernel_rfl) (by kernel_rfl) (fun _ _ _ h => h) (Or.inl ⟨by rfl, ?hy1003⟩) hHeld ?_
    case hy1003 => (intro w hSw; (try dsimp only at hSw); go_simp; (try with_reducible rfl))
    (try simp only [Act.put, List.setIfInBounds_toArray, List.set_cons_zero, List.set_cons_succ])
    refine wpAnyH_take (i := 3) (oi := { dst := some 28, op := Op.load 65 (Operand.tmp 27), type := 65, pos := "table.go:45", after := #[{ on := 2, ground := Ground.data }], guard := none }) (v := ?v1004) rfl (by kernel_rfl) (by kernel_rfl) (by kernel_rfl) (fun _ _ _ h => h) (Or.inl ⟨by rfl, ?hy1004⟩) hHeld ?_
    case hy1004 => (intro w hSw; (try dsimp only at hSw); go_simp; (try with_reducible rfl))
    (try simp only [Act.put, List.setIfInBounds_toArray, List.set_cons_zero, List.set_cons_succ])
    refine' wpAnyH_take (i := 4) (oi := { dst := some 29, op := Op.load 30 (Operand.tmp 6), type := 30, pos := "table.go:45", after := #[], guard := none }) (v := _) rfl (by kernel_rfl) (by kernel_rfl) (by kernel_rfl) (fun _ _ _ h => h) (yieldsIf_load_mid (by rfl) _ _ rfl K 0 rfl (nums .u8 no) _ (fun _ h => h.2.1) unH rfl hiH) hHeld ?_
    (try simp only [Act.put, List.setIfInBounds_toArray, List.set_cons_zero, List.set_cons_succ])
    refine wpAnyH_take (i := 5) (oi := { dst := some 30, op := Op.lookup 65 (Operand.tmp 28) (Operand.tmp 29) true, type := 44, pos := "table.go:45", after := #[{ on := 3, ground := Ground.data }, { on := 4, ground := Ground.data }], guard := none }) (v := .tuple #[.agg q0.cells.toArray, .bool kn]) rfl (by kernel_rfl) (by kernel_rfl) (by kernel_rfl) (fun _ _ _ h => h) (Or.inl ⟨by rfl, fun w h => by rw [← hval.out]; exact run_look _ _ _ true rfl unMap (ZQ w) h.2.2 rfl no hno rfl⟩) hHeld ?_
    (try simp only [Act.put, List.setIfInBounds_toArray, List.set_cons_zero, List.set_cons_succ])
    refine wpAnyH_take (i := 6) (oi := { dst := some 24, op := Op.move (Operand.tmp 30), type := 44, pos := "table.go:45", after := #[{ on := 5, ground := Ground.data }], guard := none }) (v := ?v1005) rfl (by kernel_rfl) (by kernel_rfl) (by kernel_rfl) (fun _ _ _ h => h) (Or.inl ⟨by rfl, ?hy1005⟩) hHeld ?_
    case hy1005 => (intro w hSw; (try dsimp only at hSw); go_simp; (try with_reducible rfl))
    (try simp only [Act.put, List.setIfInBounds_toArray, List.set_cons_zero, List.set_cons_succ])
    refine wpAnyH_take (i := 7) (oi := { dst := some 31, op := Op.extract (Operand.tmp 24) 0, type := 43, pos := "table.go:45", after := #[{ on := 6, ground := Ground.data }], guard := none }) (v := ?v1006) rfl (by kernel_rfl) (by kernel_rfl) (by kernel_rfl) (fun _ _ _ h => h) (Or.inl ⟨by rfl, ?hy1006⟩) hHeld ?_
    case hy1006 => (intro w hSw; (try dsimp only at hSw); go_simp; (try with_reducible rfl))
    (try simp only [Act.put, List.setIfInBounds_toArray, List.set_cons_zero, List.set_cons_succ])
    refine wpAnyH_take (i := 8) (oi := { dst := some 32, op := Op.extract (Operand.tmp 24) 1, type := 4, pos := "table.go:45", after := #[{ on := 6, ground := Ground.data }, { on := 10, ground := Ground.gcOnly Departure.lateStores }], guard := none }) (v := ?v1007) rfl (by kernel_rfl) (by kernel_rfl) (by kernel_rfl) (fun _ _ _ h => h) (Or.inl ⟨by rfl, ?hy1007⟩) hHeld ?_
    case hy1007 => (intro w hSw; (try dsimp only at hSw); go_simp; (try with_reducible rfl))
    (try simp only [Act.put, List.setIfInBounds_toArray, List.set_cons_zero, List.set_cons_succ])
    refine wpAnyH_ready (rs := [9]) (by kernel_rfl) (by simp) ?_
    refine AllReadyH.cons (o := { dst := some 11, op := Op.alloc 43, type := 0, pos := "table.go:45", after := #[], guard := none }) rfl (fun K hK => ?_) ?_
    go_simp; (first | refine newZ ?_ | refine newZd ?_); intro w5 h5 b5
    refine hK.out _ _ (keepS _ _ b5.out ⟨f1, f2, f3⟩) (fun hHeld => ?_)
    clear hK K
    (try simp only [List.setIfInBounds_toArray, List.set_cons_zero, List.set_cons_succ])
    refine wpAnyH_ready (rs := [10]) (by kernel_rfl) (by simp) ?_
    refine AllReadyH.cons (o := { dst := none, op := Op.store 43 (Operand.tmp 11) (Operand.tmp 31), type := 0, pos := "table.go:45", after := #[{ on := 9, ground := Ground.data }, { on := 7, ground := Ground.data }, { on := 0, ground := Ground.phase }, { on := 1, ground := Ground.phase }, { on := 2, ground := Ground.phase }, { on := 3, ground := Ground.phase }, { on := 4, ground := Ground.phase }, { on := 5, ground := Ground.phase }, { on := 6, ground := Ground.phase }, { on := 7, ground := Ground.phase }, { on := 8, ground := Ground.textOnly Departure.lateStores }, { on := 9, ground := Ground.phase }], guard := none }) rfl (fun K hK => ?_) ?_
    rw [if_pos (by rfl)]; refine wp_store_row _ _ _ rfl _ q0.cells.toArray rfl rfl _ _ h5.out hq0i.out hq0z.out hq0o.out ?_
    refine hK.out _ _ (keepS _ _ (below_setRow b5.out (Nat.le_refl _) _) ⟨f1, f2, f3⟩) (fun hHeld => ?_)
    clear hK K
    (try simp only [List.setIfInBounds_toArray, List.set_cons_zero, List.set_cons_succ])
    refine wpAnyH_take (i := 11) (oi := { dst := some 12, op := Op.assign (Operand.tmp 32), type := 4, pos := "table.go:45", after := #[{ on := 8, ground := Ground.data }, { on := 10, ground := Ground.chain }, { on := 0, ground := Ground.phase }, { on := 1, ground := Ground.phase }, { on := 2, ground := Ground.phase }, { on := 3, ground := Ground.phase }, { on := 4, ground := Ground.phase }, { on := 5, ground := Ground.phase }, { on := 6, ground := Ground.phase }, { on := 7, ground := Ground.phase }, { on := 8, ground := Ground.phase }, { on := 9, ground := Ground.phase }, { on := 10, ground := Ground.phase }], guard := none }) (v := ?v1008) rfl (by kernel_rfl) (by kernel_rfl) (by kernel_rfl) (fun _ _ _ h => h) (Or.inl ⟨by rfl, ?hy1008⟩) hHeld ?_
    case hy1008 => (intro w hSw; (try dsimp only at hSw); go_simp; (try with_reducible rfl))
    (try simp only [Act.put, List.setIfInBounds_toArray, List.set_cons_zero, List.set_cons_succ])
    refine wpAnyH_done (by kernel_rfl) ?_ _
    rotate_left
    exact AllReadyH.nil
    exact AllReadyH.nil
    have L9 := below_setRow b5.out (Nat.le_refl _) q0.cells.toArray
    have B7 := hid (bstep B1.out L9)
    have g1 := cell_keep L9 f1
    have g2 := range_keep L9 f2
    have g4 := range_keep L9 f4
    have g3 := hid (f3.below L9)
    clear L9 keepS hHeld b5 f1 f2 f3 f4 h5 hval
    generalize w5.setRow w1.heap.size q0.cells.toArray = w7 at *
    generalize w1.heap.size = G9 at *
    rcases HMq.out with ⟨hk, hM, hqz⟩ | ⟨hk, hM⟩
    · subst hk
      have hs := HT.out.small
      by_cases hn : 256 ≤ n
      · have E := hid (show askC M n no id most = 4 by rw [askC, if_neg hm0'.out, hM, if_neg (by decide), if_pos hn])
        have F := hid (ask_bad (buy := buy) E.out (by decide) (TRes.same (k := 4) (w' := w7) (z := 4) rfl HT.out B7.out))
        have tn : decide ((n : Int) ≥ 256) = true := by rw [decide_eq_true_eq]; omega
        have tn2 : (256 : Int) ≤ (n : Int) := by omega
        clear hM hqz hn hs g2 g4
        go_wp2_with (refine wpList_lenM rfl _ _ rfl unMap g3.out rfl ?_)
        go_ret
        exact F.out
      · have E := hid (show askC M n no id most = 0 by rw [askC, if_neg hm0'.out, hM, if_neg (by decide), if_neg hn])
        have tn : ¬ (256 : Int) ≤ (n : Int) := by omega
        have hnb := hid (show n < maxLen by unfold maxLen; omega)
        have hqk : Quo.ok (askQ no id buy most) := ⟨hno.1, hno.2, hid'.1, hid'.2, hmost, by show 0 < 18446744073709551616; decide, by show 0 < 18446744073709551616; decide, by show 0 < 18446744073709551616; decide, show (Lit.int .i64 0).wf = true by decide, show (Lit.int .i64 0).wf = true by decide⟩
        have HBT := hid (built_q no id buy most hno.1 hid'.1)
        have hn1' := hid (show n + 1 ≤ 256 by omega)
        have hvn := hid (show (valM M no).isSome = false by unfold valM; rw [hM]; rfl)
        have HQK := hid hqk
        unfold askQ at HQK
        have hCS0 := hid (show askQ no id buy most = ⟨no, id, buy, most, 0, 0, 0, 0, 0⟩ from rfl)
        generalize hCS : Quo.cells ⟨no, id, buy, most, 0, 0, 0, 0, 0⟩ = CS at *
        have HCS := hid hCS
        clear hM hqz hs hn hqk hCS
        go_wp2_with (refine wpList_lenM rfl _ _ rfl unMap g3.out rfl ?_)
        refine wp_region_held_drew (S := fun w' => w'.cell? ⟨tb, 0, none⟩ = some (.map (some mb)) ∧ w'.rangeAt K 0 (nums .u8 no) ∧ w'.rangeAt K2 0 (nums .u8 id)) (by kernel_rfl) (⟨g1, g2, g4⟩) (fun hHeld => ?_)
        try simp only [List.size_toArray, List.length_cons, List.length_nil, Nat.reduceAdd, Array.replicate_succ, Array.replicate_zero, List.push_toArray, List.nil_append, List.cons_append]
        refine wpAnyH_take (i := 0) (oi := { dst := some 40, op := Op.move (Operand.tmp 0), type := 27, pos := "table.go:51", after := #[], guard := none }) (v := ?v2001) rfl (by kernel_rfl) (by kernel_rfl) (by kernel_rfl) (fun _ _ _ h => h) (Or.inl ⟨by rfl, ?hy2001⟩) hHeld ?_
        case hy2001 => (intro w hSw; (try dsimp only at hSw); go_simp; (try with_reducible rfl))
        (try simp only [Act.put, List.setIfInBounds_toArray, List.set_cons_zero, List.set_cons_succ])
        refine wpAnyH_take (i := 1) (oi := { dst := some 41, op := Op.nilCheck (Operand.tmp 40), type := 0, pos := "table.go:51", after := #[{ on := 0, ground := Ground.data }], guard := none }) (v := ?v2002) rfl (by kernel_rfl) (by kernel_rfl) (by kernel_rfl) (fun _ _ _ h => h) (Or.inl ⟨by rfl, ?hy2002⟩) hHeld ?_
        case hy2002 => (intro w hSw; (try dsimp only at hSw); go_simp; (try with_reducible rfl))
        (try simp only [Act.put, List.setIfInBounds_toArray, List.set_cons_zero, List.set_cons_succ])
        refine wpAnyH_take (i := 2) (oi := { dst := some 42, op := Op.fieldAddr 67 (Operand.tmp 41) 0, type := 0, pos := "table.go:51", after := #[{ on := 1, ground := Ground.data }], guard := none }) (v := ?v2003) rfl (by kernel_rfl) (by kernel_rfl) (by kernel_rfl) (fun _ _ _ h => h) (Or.inl ⟨by rfl, ?hy2003⟩) hHeld ?_
        case hy2003 => (intro w hSw; (try dsimp only at hSw); go_simp; (try with_reducible rfl))
        (try simp only [Act.put, List.setIfInBounds_toArray, List.set_cons_zero, List.set_cons_succ])
        refine wpAnyH_take (i := 3) (oi := { dst := some 43, op := Op.load 65 (Operand.tmp 42), type := 65, pos := "table.go:51", after := #[{ on := 2, ground := Ground.data }], guard := none }) (v := ?v2004) rfl (by kernel_rfl) (by kernel_rfl) (by kernel_rfl) (fun _ _ _ h => h) (Or.inl ⟨by rfl, ?hy2004⟩) hHeld ?_
        case hy2004 => (intro w hSw; (try dsimp only at hSw); go_simp; (try with_reducible rfl))
        (try simp only [Act.put, List.setIfInBounds_toArray, List.set_cons_zero, List.set_cons_succ])
        refine' wpAnyH_take (i := 4) (oi := { dst := some 44, op := Op.load 30 (Operand.tmp 6), type := 30, pos := "table.go:51", after := #[], guard := none }) (v := _) rfl (by kernel_rfl) (by kernel_rfl) (by kernel_rfl) (fun _ _ _ h => h) (yieldsIf_load_mid (by rfl) _ _ rfl K 0 rfl (nums .u8 no) _ (fun _ h => h.2.1) unH rfl hiH) hHeld ?_
        (try simp only [Act.put, List.setIfInBounds_toArray, List.set_cons_zero, List.set_cons_succ])
        refine' wpAnyH_take (i := 5) (oi := { dst := some 45, op := Op.load 30 (Operand.tmp 6), type := 30, pos := "table.go:51", after := #[], guard := none }) (v := _) rfl (by kernel_rfl) (by kernel_rfl) (by kernel_rfl) (fun _ _ _ h => h) (yieldsIf_load_mid (by rfl) _ _ rfl K 0 rfl (nums .u8 no) _ (fun _ h => h.2.1) unH rfl hiH) hHeld ?_
        (try simp only [Act.put, List.setIfInBounds_toArray, List.set_cons_zero, List.set_cons_succ])
        refine' wpAnyH_take (i := 6) (oi := { dst := some 46, op := Op.load 30 (Operand.tmp 7), type := 30, pos := "table.go:51", after := #[], guard := none }) (v := _) rfl (by kernel_rfl) (by kernel_rfl) (by kernel_rfl) (fun _ _ _ h => h) (yieldsIf_load_mid (by rfl) _ _ rfl K2 0 rfl (nums .u8 id) _ (fun _ h => h.2.2) unH rfl hiI) hHeld ?_
        (try simp only [Act.put, List.setIfInBounds_toArray, List.set_cons_zero, List.set_cons_succ])
        refine wpAnyH_take (i := 7) (oi := { dst := some 47, op := Op.move (Operand.tmp 3), type := 4, pos := "table.go:51", after := #[], guard := none }) (v := ?v2005) rfl (by kernel_rfl) (by kernel_rfl) (by kernel_rfl) (fun _ _ _ h => h) (Or.inl ⟨by rfl, ?hy2005⟩) hHeld ?_
        case hy2005 => (intro w hSw; (try dsimp only at hSw); go_simp; (try with_reducible rfl))
        (try simp only [Act.put, List.setIfInBounds_toArray, List.set_cons_zero, List.set_cons_succ])
        refine wpAnyH_take (i := 8) (oi := { dst := some 48, op := Op.move (Operand.tmp 4), type := 22, pos := "table.go:51", after := #[], guard := none }) (v := ?v2006) rfl (by kernel_rfl) (by kernel_rfl) (by kernel_rfl) (fun _ _ _ h => h) (Or.inl ⟨by rfl, ?hy2006⟩) hHeld ?_
        case hy2006 => (intro w hSw; (try dsimp only at hSw); go_simp; (try with_reducible rfl))
        (try simp only [Act.put, List.setIfInBounds_toArray, List.set_cons_zero, List.set_cons_succ])
        refine wpAnyH_take (i := 9) (oi := { dst := some 49, op := Op.build 43 #[(0, Operand.tmp 45), (1, Operand.tmp 46), (2, Operand.tmp 47), (3, Operand.tmp 48)], type := 43, pos := "table.go:51", after := #[{ on := 5, ground := Ground.data }, { on := 6, ground := Ground.data }, { on := 7, ground := Ground.data }, { on := 8, ground := Ground.data }], guard := none }) (v := .agg CS.toArray) rfl (by kernel_rfl) (by kernel_rfl) (by kernel_rfl) (fun _ _ _ h => h) (Or.inl ⟨by rfl, fun w _ => run_build4' rfl rfl rfl rfl rfl HBT.out⟩) hHeld ?_
        (try simp only [Act.put, List.setIfInBounds_toArray, List.set_cons_zero, List.set_cons_succ])
        refine wpAnyH_ready (rs := [10]) (by kernel_rfl) (by simp) ?_
        refine AllReadyH.cons (o := { dst := none, op := Op.mapUpdate 65 (Operand.tmp 43) (Operand.tmp 44) (Operand.tmp 49), type := 0, pos := "table.go:51", after := #[{ on := 3, ground := Ground.data }, { on := 4, ground := Ground.data }, { on := 9, ground := Ground.data }, { on := 0, ground := Ground.phase }, { on := 1, ground := Ground.phase }, { on := 2, ground := Ground.phase }, { on := 3, ground := Ground.phase }, { on := 4, ground := Ground.phase }, { on := 5, ground := Ground.phase }, { on := 6, ground := Ground.phase }, { on := 7, ground := Ground.phase }, { on := 8, ground := Ground.phase }, { on := 9, ground := Ground.phase }], guard := none }) rfl (fun K hK => ?_) ?_
        rw [if_pos (by rfl)]; refine wp_put _ _ _ _ rfl unMap (g3.out.below ((Below.refl _ _).drew)) hnb.out rfl no hno rfl rfl ?_; intro w6 m6 f6
        refine hK.out _ _ (⟨far_cell f6 hHeld.1 hn1.out, range_far f6 hHeld.2.1 hn2.out, range_far f6 hHeld.2.2 hn3.out⟩) (fun hHeld => ?_)
        clear hK K
        (try simp only [List.setIfInBounds_toArray, List.set_cons_zero, List.set_cons_succ])
        refine wpAnyH_done (by kernel_rfl) ?_ _
        rotate_left
        exact AllReadyH.nil
        have hm6 := m6
        rw [hvn.out] at hm6
        rw [← HCS.out] at hm6
        have hT6 := hid ((HT.out.below (B7.out.drew)).put hm6 f6 HQK.out hn1'.out)
        have hF6 := hid ((Far.of (H := mb) (B7.out.drew)).trans f6)
        clear m6 hm6 f6 hHeld g1 g2 g4
        go_wp2
        go_ret
        exact ask_good E.out ⟨rfl, hT6.out, hF6.out⟩
    · subst hk
      have E := hid (show askC M n no id most = 6 by rw [askC, if_neg hm0'.out, hM]; exact if_pos rfl)
      have F := hid (ask_bad (buy := buy) E.out (by decide) (TRes.same (k := 6) (w' := w7) (z := 6) rfl HT.out B7.out))
      clear hM g2 g4
      go_wp2
      go_ret
      exact F.out
def resM (M : QM) (no : List Nat) (r : Quo × Nat) : QM := if r.2 = 0 then updM M no r.1 else M
theorem res_bad {w w' : World} {tb mb n k : Nat} {M : QM} {no : List Nat} {r : Quo × Nat} {e : Ending} (h : r.2 = k) (hk : k ≠ 0) (t : TRes w tb mb M n k e w') : TRes w tb mb (resM M no r) n r.2 e w' := by
  unfold resM
  rw [if_neg (by omega), h]
  exact t
theorem res_good {w w' : World} {tb mb n : Nat} {M : QM} {no : List Nat} {r : Quo × Nat} {q : Quo} {e : Ending} (h : r = (q, 0)) (t : TRes w tb mb (updM M no q) n 0 e w') : TRes w tb mb (resM M no r) n r.2 e w' := by
  unfold resM
  rw [h, if_pos rfl]
  exact t
theorem openS_ok {M : QM} {no : List Nat} (hM : ∀ x q, M x = some q → q.ok) : (openS (M no)).1.ok := by
  unfold openS
  cases h : M no with
  | none => exact qz_ok
  | some q =>
    simp only
    split
    · exact hM no q h
    · exact qz_ok
theorem openS_good {o : Option Quo} (h : (openS o).2 = 0) : o = some (openS o).1 ∧ (openS o).1.st = 0 := by
  unfold openS at *
  cases o with
  | none => cases h
  | some q =>
    simp only at h ⊢
    split at h
    · rename_i hs; rw [if_pos hs]; exact ⟨rfl, hs⟩
    · cases h
def rejS (o : Option Quo) : Quo × Nat := if (openS o).2 = 0 then ({ (openS o).1 with st := 2 }, 0) else openS o
set_option maxRecDepth 100000 in
set_option maxHeartbeats 8000000 in
theorem rej_walk (tb mb n : Nat) (M : QM) (no : List Nat) (hno : EH.ok no) (w : World) (h : TabAt w tb mb M n) :
    Calls Try.prog 21 #[.pointer (some ⟨tb, 0, none⟩), .agg (nums .u8 no).toArray] w (TRes w tb mb (resM M no (rejS (M no))) n (rejS (M no)).2) := by
  have ZQ := zeroQ
  have hne := zQ_ne
  have unH := Try.underlying30
  have unQ := Try.underlying43
  have hiH : (Try.prog.info? 30).map (·.size) = some (nums .u8 no).length := by rw [nums_length, hno.1]; exact infoH
  have bb := (Below.refl w.heap.size w).alloc (Nat.le_refl _) (.cells (nums .u8 no).toArray 30)
  have HT := hid h
  have HT1 := hid (h.below bb)
  have f2 := row_range (L := nums .u8 no) (heap_alloc_new w (.cells (nums .u8 no).toArray 30))
  have B1 := hid bb
  have OW := fun wx hx => hid (open_walk tb mb n M no hno wx hx)
  have hok := openS_ok (no := no) h.ok
  have hmb := hid (show mb < w.heap.size from h.map.lt)
  have hgood := hid (@openS_good (M no))
  have hrej := hid (show rejS (M no) = if (openS (M no)).2 = 0 then ({ (openS (M no)).1 with st := 2 }, 0) else openS (M no) from rfl)
  unfold QRes at OW
  clear bb h
  generalize hr : rejS (M no) = r at *
  generalize hp : openS (M no) = p at *
  clear hr hp
  obtain ⟨q0, k⟩ := p
  simp only at hok hgood hrej OW
  have hq0i := hid (infoQa hok)
  have hq0z := hid (zQ_as hok)
  have hq0o := hid (all_oneCell_toArray (Quo.one q0))
  go_enter Try.func21, Try.ntmps21
  go_wp2_with (refine wpList_load_mid rfl _ _ rfl w.heap.size 0 rfl (nums .u8 no) _ f2 Try.underlying30 rfl hiH ?_)
  refine (OW _ HT1.out).out.mono ?_
  rintro e w2 ⟨rfl, b2⟩
  have A3 := hid (heap_alloc_new w2 (.cells zQ 43))
  have L3 := laid w2 zQ q0.cells.toArray 43
  have HT3 := hid ((HT1.out.below b2).below L3.2)
  have B3 := hid (bstep (bstep B1.out b2) L3.2)
  have f3 := range_keep L3.2 (range_keep b2 f2)
  have H3 := L3.1
  have hG := hid (show w.heap.size < w2.heap.size by have := b2.size; simp at this; omega)
  by_cases hk : k = 0
  · obtain ⟨hM, hst⟩ := hgood.out hk
    have HGQ := hid (hrej.out.trans (if_pos hk))
    subst hk
    have hq1 : Quo.ok { q0 with st := 2 } := ⟨hok.nl, hok.nb, hok.il, hok.ib, hok.mb, hok.cb, hok.ub, hok.sb, show (Lit.int .i64 2).wf = true by decide, hok.tw⟩
    have HQ1 := hid hq1
    have hvn := hid (show (if (valM M no).isSome = true then n else n + 1) = n by unfold valM; rw [hM]; exact if_pos rfl)
    have H4 := heap_set (i := 66) (.int .i64 2) H3
    rw [show q0.cells.set 66 (.int .i64 2) = Quo.cells { q0 with st := 2 } from Quo.set hok 2 _] at H4
    have c66 := gen_cell (row_range H3) (Quo.get hok 2)
    have fz : World.frozen? _ ⟨w2.heap.size, 66, none⟩ = false := frozen_of_row _ _ _ _ _ H3
    have hf := Far.set (w := (w2.alloc (.cells zQ 43)).setRow w2.heap.size q0.cells.toArray) (H := w2.heap.size) (j := 66) (.int .i64 2)
    have HT9 := hid (HT3.out.far hf (by have := World.block_lt_of_cell? w _ HT.out.cell; simp at this; have := hG.out; omega) (by have := hmb.out; have := hG.out; omega))
    have B9 := hid (B3.out.setCell (p := ⟨w2.heap.size, 66, none⟩) (by have := hG.out; show w.heap.size ≤ w2.heap.size; omega) (.int .i64 2))
    have g2 := range_far hf f3 (by have := hG.out; omega)
    have g5 := row_range H4
    have hiC := infoQl hq1
    clear H3 L3 hM hst hf hq1 H4 f3 HT3 B3
    generalize hCS : Quo.cells { q0 with st := 2 } = CS at *
    have HCS := hid hCS
    clear hCS
    go_wp2_with (refine wpList_store_row rfl _ _ _ rfl w2.heap.size q0.cells.toArray rfl rfl _ _ A3.out hq0i.out hq0z.out hq0o.out ?_)
    clear A3
    generalize ((w2.alloc (.cells zQ 43)).setRow w2.heap.size q0.cells.toArray).setCell ⟨w2.heap.size, 66, none⟩ (.int .i64 2) = w9 at *
    have hn2 := hid (show w.heap.size ≠ mb by have := hmb.out; omega)
    have hn3 := hid (show w2.heap.size ≠ mb by have := hmb.out; have := hG.out; omega)
    generalize w2.heap.size = G9 at *
    obtain ⟨K, hK⟩ : ∃ K, K = w.heap.size := ⟨_, rfl⟩
    rw [← hK] at g2 hn2 ⊢
    clear hK c66 fz
    have g1 := HT9.out.cell
    have g3 := hid HT9.out.map
    have hnb := hid (show n < maxLen by have := HT9.out.small; unfold maxLen; omega)
    have hn1 := hid HT9.out.ne
    refine wp_region_held_drew (S := fun w' => w'.cell? ⟨tb, 0, none⟩ = some (.map (some mb)) ∧ w'.rangeAt K 0 (nums .u8 no) ∧ w'.rangeAt G9 0 CS) (by kernel_rfl) (⟨g1, g2, g5⟩) (fun hHeld => ?_)
    try simp only [List.size_toArray, List.length_cons, List.length_nil, Nat.reduceAdd, Array.replicate_succ, Array.replicate_zero, List.push_toArray, List.nil_append, List.cons_append]
    refine wpAnyH_take (i := 0) (oi := { dst := some 19, op := Op.move (Operand.tmp 0), type := 27, pos := "table.go:82", after := #[], guard := none }) (v := ?v3001) rfl (by kernel_rfl) (by kernel_rfl) (by kernel_rfl) (fun _ _ _ h => h) (Or.inl ⟨by rfl, ?hy3001⟩) hHeld ?_
    case hy3001 => (intro w hSw; (try dsimp only at hSw); go_simp; (try with_reducible rfl))
    (try simp only [Act.put, List.setIfInBounds_toArray, List.set_cons_zero, List.set_cons_succ])
    refine wpAnyH_take (i := 1) (oi := { dst := some 20, op := Op.nilCheck (Operand.tmp 19), type := 0, pos := "table.go:82", after := #[{ on := 0, ground := Ground.data }], guard := none }) (v := ?v3002) rfl (by kernel_rfl) (by kernel_rfl) (by kernel_rfl) (fun _ _ _ h => h) (Or.inl ⟨by rfl, ?hy3002⟩) hHeld ?_
    case hy3002 => (intro w hSw; (try dsimp only at hSw); go_simp; (try with_reducible rfl))
    (try simp only [Act.put, List.setIfInBounds_toArray, List.set_cons_zero, List.set_cons_succ])
    refine wpAnyH_take (i := 2) (oi := { dst := some 21, op := Op.fieldAddr 67 (Operand.tmp 20) 0, type := 0, pos := "table.go:82", after := #[{ on := 1, ground := Ground.data }], guard := none }) (v := ?v3003) rfl (by kernel_rfl) (by kernel_rfl) (by kernel_rfl) (fun _ _ _ h => h) (Or.inl ⟨by rfl, ?hy3003⟩) hHeld ?_
    case hy3003 => (intro w hSw; (try dsimp only at hSw); go_simp; (try with_reducible rfl))
    (try simp only [Act.put, List.setIfInBounds_toArray, List.set_cons_zero, List.set_cons_succ])
    refine wpAnyH_take (i := 3) (oi := { dst := some 22, op := Op.load 65 (Operand.tmp 21), type := 65, pos := "table.go:82", after := #[{ on := 2, ground := Ground.data }], guard := none }) (v := ?v3004) rfl (by kernel_rfl) (by kernel_rfl) (by kernel_rfl) (fun _ _ _ h => h) (Or.inl ⟨by rfl, ?hy3004⟩) hHeld ?_
    case hy3004 => (intro w hSw; (try dsimp only at hSw); go_simp; (try with_reducible rfl))
    (try simp only [Act.put, List.setIfInBounds_toArray, List.set_cons_zero, List.set_cons_succ])
    refine' wpAnyH_take (i := 4) (oi := { dst := some 23, op := Op.load 30 (Operand.tmp 3), type := 30, pos := "table.go:82", after := #[], guard := none }) (v := _) rfl (by kernel_rfl) (by kernel_rfl) (by kernel_rfl) (fun _ _ _ h => h) (yieldsIf_load_mid (by rfl) _ _ rfl K 0 rfl (nums .u8 no) _ (fun _ h => h.2.1) unH rfl hiH) hHeld ?_
    (try simp only [Act.put, List.setIfInBounds_toArray, List.set_cons_zero, List.set_cons_succ])
    refine' wpAnyH_take (i := 5) (oi := { dst := some 24, op := Op.load 43 (Operand.tmp 5), type := 43, pos := "table.go:82", after := #[], guard := none }) (v := _) rfl (by kernel_rfl) (by kernel_rfl) (by kernel_rfl) (fun _ _ _ h => h) (yieldsIf_load_mid (by rfl) _ _ rfl G9 0 rfl CS _ (fun _ h => h.2.2) unQ rfl hiC) hHeld ?_
    (try simp only [Act.put, List.setIfInBounds_toArray, List.set_cons_zero, List.set_cons_succ])
    refine wpAnyH_ready (rs := [6]) (by kernel_rfl) (by simp) ?_
    refine AllReadyH.cons (o := { dst := none, op := Op.mapUpdate 65 (Operand.tmp 22) (Operand.tmp 23) (Operand.tmp 24), type := 0, pos := "table.go:82", after := #[{ on := 3, ground := Ground.data }, { on := 4, ground := Ground.data }, { on := 5, ground := Ground.data }, { on := 0, ground := Ground.phase }, { on := 1, ground := Ground.phase }, { on := 2, ground := Ground.phase }, { on := 3, ground := Ground.phase }, { on := 4, ground := Ground.phase }, { on := 5, ground := Ground.phase }], guard := none }) rfl (fun K hK => ?_) ?_
    rw [if_pos (by rfl)]; refine wp_put _ _ _ _ rfl unMap (g3.out.below ((Below.refl _ _).drew)) hnb.out rfl no hno rfl rfl ?_; intro w6 m6 f6
    refine hK.out _ _ (⟨far_cell f6 hHeld.1 hn1.out, range_far f6 hHeld.2.1 hn2.out, range_far f6 hHeld.2.2 hn3.out⟩) (fun hHeld => ?_)
    clear hK K
    (try simp only [List.setIfInBounds_toArray, List.set_cons_zero, List.set_cons_succ])
    refine wpAnyH_done (by kernel_rfl) ?_ _
    rotate_left
    exact AllReadyH.nil
    rw [hvn.out, ← HCS.out] at m6
    have hT6 := hid ((HT9.out.below ((Below.refl _ _).drew)).put m6 f6 HQ1.out HT9.out.small)
    have hF6 := hid ((Far.of (H := mb) (B9.out.drew)).trans f6)
    clear m6 f6 hHeld g1 g2 g5
    go_wp2
    go_ret
    exact res_good HGQ.out ⟨rfl, hT6.out, hF6.out⟩
  · have E := hid (show r.2 = k by rw [hrej.out, if_neg hk])
    have te : ((k : Int) != 0) = true := by simp; omega
    have F := hid (res_bad (no := no) E.out hk (TRes.same (z := (k : Int)) rfl HT.out B3.out))
    clear hk L3 H3 f3
    go_wp2_with (refine wpList_store_row rfl _ _ _ rfl w2.heap.size q0.cells.toArray rfl rfl _ _ A3.out hq0i.out hq0z.out hq0o.out ?_)
    go_ret
    exact F.out
end Go.Proofs.Ytibjkpejbihcpaa

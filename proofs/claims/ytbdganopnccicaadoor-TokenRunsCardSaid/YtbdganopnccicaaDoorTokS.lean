/- The walk of the statement TokenRuns. -/
import Derived.Test.YtbdganopnccicaaDoorTokR
namespace Go.Proofs.YtbdganopnccicaaDoor
open Go.RowKit

theorem rd_mid {w : World} {g o : Nat} {xs : List Nat} {T : TypeId} {L : List Value} (h : w.heap[g]? = some (.cells L.toArray T (0, 0))) {n : Nat} (hn : xs.length = n) (hx : (L.drop o).take n = nums .u8 xs) (hm : n ≤ maxLen) : Sl .u8 w (some ⟨g, o, none⟩) n n xs := by
  subst hn
  refine ⟨by simp [nums_length], Nat.le_refl _, hm, by simp, g, o, fun _ => rfl, fun j v hj => ?_⟩
  have hjl : j < xs.length := by have := (List.getElem?_eq_some_iff.1 hj).1; rwa [nums_length] at this
  rw [cell_of_row _ g _ _ _ (0, 0) h]
  rw [← hx, List.getElem?_take, if_pos hjl, List.getElem?_drop] at hj
  simpa using hj
theorem rtag2_walk (G V : Nat) (xs ys : List Nat) (hx : EH.ok xs) (hy : EH.ok ys) (w : World) {T : TypeId} (hG : w.heap[G]? = some (.cells #[.slice (some ⟨V, 1, none⟩) 32 32, .slice (some ⟨V, 33, none⟩) 32 32] T (0, 0)))
    (h1 : Sl .u8 w (some ⟨V, 1, none⟩) 32 32 xs) (h2 : Sl .u8 w (some ⟨V, 33, none⟩) 32 32 ys) :
    Calls Tryd.prog 10 #[tabV, .string nmToken, .slice (some ⟨G, 0, none⟩) 2 2] w (DigRes (tokD xs ys) w) := by
  have P : Parts w (some ⟨G, 0, none⟩) 2 2 [⟨some ⟨V, 1, none⟩, 32, xs⟩, ⟨some ⟨V, 33, none⟩, 32, ys⟩] := by
    refine ⟨⟨rfl, Nat.le_refl _, by decide, (fun e => by cases e), G, 0, fun _ => rfl, fun j u hu => ?_⟩, rfl, fun l hl => ?_⟩
    · rw [Nat.zero_add, cell_of_row _ G _ _ _ (0, 0) hG]
      simpa [BS.cells, hx.1, hy.1] using hu
    · simp only [List.mem_cons, List.not_mem_nil, or_false] at hl
      rcases hl with rfl | rfl
      · exact ⟨by show Sl .u8 w _ xs.length 32 xs; rw [hx.1]; exact h1, hx.2, by show xs.length ≤ _; rw [hx.1]; decide⟩
      · exact ⟨by show Sl .u8 w _ ys.length 32 ys; rw [hy.1]; exact h2, hy.2, by show ys.length ≤ _; rw [hy.1]; decide⟩
  have := rtag_walk nmToken nmToken_size (some ⟨G, 0, none⟩) 2 2 _ w P (by simp [flat, hx.1, hy.1])
  simpa [flat, tokD] using this
theorem range_far2 {H G b o : Nat} {w w' : World} {L : List Value} (h : Far2 H G w w') (hr : w.rangeAt b o L) (hne : b ≠ H ∧ b ≠ G) : w'.rangeAt b o L := fun j v hj => by
  have := hr j v hj
  rw [World.cell?_of_block (h.block _ (World.block_lt_of_cell? w _ this) hne.1 hne.2)]; exact this
theorem sizeO' {xs : List Nat} (h : xs.length = 32) (z : Array Value) (hz : z.size = 32) : z.size = (nums .u8 xs).toArray.size := by rw [hz]; simp [h]
theorem one32 (S : List Nat) : (nums .u8 S).toArray.all (·.oneCell') = true := all_oneCell_toArray (nums_oneCell .u8 S)
theorem infoTl : (Tryd.prog.info? 30).map (·.size) = some (nums .u32 (H0 ++ K0)).length := by rw [nums_length]; exact infoTab
theorem infoOl {xs : List Nat} (h : xs.length = 32) : (Tryd.prog.info? 33).map (·.size) = some (nums .u8 xs).length := by
  have := infoO' h
  rwa [List.size_toArray] at this
theorem MapIs.heap {k : TypeId} {α : Type} {E : KeyE k α} {w w' : World} {b n : Nat} {M : α → Option Value} (h : MapIs E w b M n) (e : w'.heap[b]? = w.heap[b]?) : MapIs E w' b M n := by
  obtain ⟨D, ⟨es, cl, h0, hf, hl, hd⟩, h2, h3, h4⟩ := h
  exact ⟨D, ⟨es, cl, e.trans h0, hf, hl, hd⟩, h2, h3, h4⟩
theorem tabs_far2 {w w' : World} {H G B : Nat} (h : Tabs w) (hf : Far2 H G w w') (hB : 0 < B ∧ 1 < B) (h1 : B ≤ H) (h2 : B ≤ G) : Tabs w' := by
  refine ⟨fun i hi => ?_, fun i hi => ?_⟩
  · have := h.1 i hi
    rw [World.cell?_of_block (hf.block _ (World.block_lt_of_cell? w _ this) (by show 0 ≠ H; omega) (by show 0 ≠ G; omega))]; exact this
  · have := h.2 i hi
    rw [World.cell?_of_block (hf.block _ (World.block_lt_of_cell? w _ this) (by show 1 ≠ H; omega) (by show 1 ≠ G; omega))]; exact this
theorem built_arr2' (a0 a1 a2 a3 a4 a5 a6 a7 a8 a9 a10 a11 a12 a13 a14 a15 a16 a17 a18 a19 a20 a21 a22 a23 a24 a25 a26 a27 a28 a29 a30 a31 b0 b1 b2 b3 b4 b5 b6 b7 b8 b9 b10 b11 b12 b13 b14 b15 b16 b17 b18 b19 b20 b21 b22 b23 b24 b25 b26 b27 b28 b29 b30 b31 : Nat) : Tryd.prog.built 41 [(0, .agg (nums .u8 [a0, a1, a2, a3, a4, a5, a6, a7, a8, a9, a10, a11, a12, a13, a14, a15, a16, a17, a18, a19, a20, a21, a22, a23, a24, a25, a26, a27, a28, a29, a30, a31]).toArray), (1, .agg (nums .u8 [b0, b1, b2, b3, b4, b5, b6, b7, b8, b9, b10, b11, b12, b13, b14, b15, b16, b17, b18, b19, b20, b21, b22, b23, b24, b25, b26, b27, b28, b29, b30, b31]).toArray)] = some (nums .u8 ([a0, a1, a2, a3, a4, a5, a6, a7, a8, a9, a10, a11, a12, a13, a14, a15, a16, a17, a18, a19, a20, a21, a22, a23, a24, a25, a26, a27, a28, a29, a30, a31] ++ [b0, b1, b2, b3, b4, b5, b6, b7, b8, b9, b10, b11, b12, b13, b14, b15, b16, b17, b18, b19, b20, b21, b22, b23, b24, b25, b26, b27, b28, b29, b30, b31])).toArray := by kernel_rfl
theorem built_arr2 (x y : List Nat) (h1 : x.length = 32) (h2 : y.length = 32) : Tryd.prog.built 41 [(0, .agg (nums .u8 x).toArray), (1, .agg (nums .u8 y).toArray)] = some (nums .u8 (x ++ y)).toArray := by
  match x, h1, y, h2 with
  | [a0, a1, a2, a3, a4, a5, a6, a7, a8, a9, a10, a11, a12, a13, a14, a15, a16, a17, a18, a19, a20, a21, a22, a23, a24, a25, a26, a27, a28, a29, a30, a31], _, [b0, b1, b2, b3, b4, b5, b6, b7, b8, b9, b10, b11, b12, b13, b14, b15, b16, b17, b18, b19, b20, b21, b22, b23, b24, b25, b26, b27, b28, b29, b30, b31], _ => exact built_arr2' a0 a1 a2 a3 a4 a5 a6 a7 a8 a9 a10 a11 a12 a13 a14 a15 a16 a17 a18 a19 a20 a21 a22 a23 a24 a25 a26 a27 a28 a29 a30 a31 b0 b1 b2 b3 b4 b5 b6 b7 b8 b9 b10 b11 b12 b13 b14 b15 b16 b17 b18 b19 b20 b21 b22 b23 b24 b25 b26 b27 b28 b29 b30 b31
theorem built_op' (a0 a1 a2 a3 a4 a5 a6 a7 a8 a9 a10 a11 a12 a13 a14 a15 a16 a17 a18 a19 a20 a21 a22 a23 a24 a25 a26 a27 a28 a29 a30 a31 b0 b1 b2 b3 b4 b5 b6 b7 b8 b9 b10 b11 b12 b13 b14 b15 b16 b17 b18 b19 b20 b21 b22 b23 b24 b25 b26 b27 b28 b29 b30 b31 c0 c1 c2 c3 c4 c5 c6 c7 c8 c9 c10 c11 c12 c13 c14 c15 c16 c17 c18 c19 c20 c21 c22 c23 c24 c25 c26 c27 c28 c29 c30 c31 : Nat) : Tryd.prog.built 36 [(1, .agg (nums .u8 [a0, a1, a2, a3, a4, a5, a6, a7, a8, a9, a10, a11, a12, a13, a14, a15, a16, a17, a18, a19, a20, a21, a22, a23, a24, a25, a26, a27, a28, a29, a30, a31]).toArray), (2, .agg (nums .u8 [b0, b1, b2, b3, b4, b5, b6, b7, b8, b9, b10, b11, b12, b13, b14, b15, b16, b17, b18, b19, b20, b21, b22, b23, b24, b25, b26, b27, b28, b29, b30, b31]).toArray), (3, .agg (nums .u8 [c0, c1, c2, c3, c4, c5, c6, c7, c8, c9, c10, c11, c12, c13, c14, c15, c16, c17, c18, c19, c20, c21, c22, c23, c24, c25, c26, c27, c28, c29, c30, c31]).toArray)] = some (OpX.cells ⟨false, [a0, a1, a2, a3, a4, a5, a6, a7, a8, a9, a10, a11, a12, a13, a14, a15, a16, a17, a18, a19, a20, a21, a22, a23, a24, a25, a26, a27, a28, a29, a30, a31], [b0, b1, b2, b3, b4, b5, b6, b7, b8, b9, b10, b11, b12, b13, b14, b15, b16, b17, b18, b19, b20, b21, b22, b23, b24, b25, b26, b27, b28, b29, b30, b31], [c0, c1, c2, c3, c4, c5, c6, c7, c8, c9, c10, c11, c12, c13, c14, c15, c16, c17, c18, c19, c20, c21, c22, c23, c24, c25, c26, c27, c28, c29, c30, c31], false⟩).toArray := by kernel_rfl
theorem built_op (x y z : List Nat) (h1 : x.length = 32) (h2 : y.length = 32) (h3 : z.length = 32) : Tryd.prog.built 36 [(1, .agg (nums .u8 x).toArray), (2, .agg (nums .u8 y).toArray), (3, .agg (nums .u8 z).toArray)] = some (OpX.cells ⟨false, x, y, z, false⟩).toArray := by
  match x, h1, y, h2, z, h3 with
  | [a0, a1, a2, a3, a4, a5, a6, a7, a8, a9, a10, a11, a12, a13, a14, a15, a16, a17, a18, a19, a20, a21, a22, a23, a24, a25, a26, a27, a28, a29, a30, a31], _, [b0, b1, b2, b3, b4, b5, b6, b7, b8, b9, b10, b11, b12, b13, b14, b15, b16, b17, b18, b19, b20, b21, b22, b23, b24, b25, b26, b27, b28, b29, b30, b31], _, [c0, c1, c2, c3, c4, c5, c6, c7, c8, c9, c10, c11, c12, c13, c14, c15, c16, c17, c18, c19, c20, c21, c22, c23, c24, c25, c26, c27, c28, c29, c30, c31], _ => exact built_op' a0 a1 a2 a3 a4 a5 a6 a7 a8 a9 a10 a11 a12 a13 a14 a15 a16 a17 a18 a19 a20 a21 a22 a23 a24 a25 a26 a27 a28 a29 a30 a31 b0 b1 b2 b3 b4 b5 b6 b7 b8 b9 b10 b11 b12 b13 b14 b15 b16 b17 b18 b19 b20 b21 b22 b23 b24 b25 b26 b27 b28 b29 b30 b31 c0 c1 c2 c3 c4 c5 c6 c7 c8 c9 c10 c11 c12 c13 c14 c15 c16 c17 c18 c19 c20 c21 c22 c23 c24 c25 c26 c27 c28 c29 c30 c31
theorem wpList_putN {k : TypeId} {α : Type} {E : KeyE k α} {w : World} {b n : Nat} {M : α → Option Value} {ops : Array Oper} {rest : List Oper} {o : Oper} {a : Act} {Q : Exit → Act → World → Prop} (hg : o.guard = none) (m x v : Operand) (t : TypeId) (hop : o.op = Op.mapUpdate t m x v) {e : TypeId} (ht : Tryd.prog.underlying t = some (.map k e)) (h : MapIs E w b M n) (hn : n < maxLen)
    (hm : a.eval m = .map (some b)) (y : α) (hy : E.ok y) (hx : a.eval x = E.enc y) {val : Value} (hv : a.eval v = val) [DecidableEq α] (hs : (M y).isSome = false)
    (hK : ∀ w', MapIs E w' b (fun z => if z = y then some val else M z) (n + 1) → Far b w w' → wpList Tryd.prog ops Q rest (a.put o.dst undef) w') : wpList Tryd.prog ops Q (o :: rest) a w :=
  wpList_put hg m x v t hop ht h hn hm y hy hx hv (fun w' h1 h2 => hK w' (by simpa [hs] using h1) h2)
theorem wpList_buildN3 {P : Program} {ops : Array Oper} {rest : List Oper} {o : Oper} {a : Act} {w : World} {Q : Exit → Act → World → Prop} (hg : o.guard = none) (t : TypeId) (x0 x1 x2 : Operand) (ho : o.op = .build t #[(1, x0), (2, x1), (3, x2)])
    {v0 v1 v2 : Value} {cells : Array Value} (hb : P.built t [(1, v0), (2, v1), (3, v2)] = some cells) (h0 : a.eval x0 = v0) (h1 : a.eval x1 = v1) (h2 : a.eval x2 = v2)
    (h : wpList P ops Q rest (a.put o.dst (.agg cells)) w) : wpList P ops Q (o :: rest) a w := by
  refine wpList_plain hg fun K hK => ?_
  unfold Oper.wp
  rw [run_buildN ho (cells := cells) (by simpa [h0, h1, h2] using hb), Oper.upon_value]
  exact hK _ _ h
/-- what stands between two steps -/
structure RunR (w0 : World) (T4 ob mb gb L6 : Nat) (M : EM) (n : Nat) (lst : OpX) (w : World) : Prop where
  off : OffAt w ob mb M n
  giv : MapIs E32 w gb (valE M) n
  tab : w.heap[T4]? = some (.cells tabC 30 (0, 0))
  las : w.heap[L6]? = some (.cells lst.cells.toArray 36 (0, 0))
  lok : lst.ok
  bel : Below w0.heap.size w0 w
  lo : w0.heap.size ≤ ob ∧ w0.heap.size ≤ mb ∧ w0.heap.size ≤ gb ∧ w0.heap.size ≤ L6
  ne : gb ≠ ob ∧ gb ≠ mb ∧ L6 ≠ ob ∧ L6 ≠ mb ∧ L6 ≠ gb ∧ T4 ≠ ob ∧ T4 ≠ mb ∧ T4 ≠ gb ∧ T4 ≠ L6
theorem RunR.below {w0 w w' : World} {T4 ob mb gb L6 n : Nat} {M : EM} {lst : OpX} (h : RunR w0 T4 ob mb gb L6 M n lst w) (hb : Below w.heap.size w w') : RunR w0 T4 ob mb gb L6 M n lst w' :=
  ⟨h.off.below hb, h.giv.below hb, heap_keep h.tab hb, heap_keep h.las hb, h.lok, bstep h.bel hb, h.lo, h.ne⟩
theorem RunR.far {w0 w w' : World} {T4 ob mb gb L6 n H : Nat} {M : EM} {lst : OpX} (h : RunR w0 T4 ob mb gb L6 M n lst w) (hf : Far H w w') (h0 : w0.heap.size ≤ H) (h1 : ob ≠ H) (h2 : mb ≠ H) (h3 : gb ≠ H) (h4 : L6 ≠ H) (h5 : T4 ≠ H) : RunR w0 T4 ob mb gb L6 M n lst w' :=
  ⟨h.off.far hf h1 h2, h.giv.far hf h3, heap_far h.tab hf h5, heap_far h.las hf h4, h.lok, h.bel.trans (hf.below h0 h.bel.size), h.lo, h.ne⟩
theorem op_part {w : World} {V : Nat} {o : OpX} {T : TypeId} (h : w.heap[V]? = some (.cells o.cells.toArray T (0, 0))) (hok : o.ok) : w.rangeAt V 1 (nums .u8 o.A) ∧ w.rangeAt V 33 (nums .u8 o.B) ∧ w.rangeAt V 65 (nums .u8 o.T) := by
  obtain ⟨_, _, qA, qB, qT⟩ := OpX.at' hok
  refine ⟨?_, ?_, ?_⟩
  · have := gen_range (row_range h) 1 32; rwa [qA] at this
  · have := gen_range (row_range h) 33 32; rwa [qB] at this
  · have := gen_range (row_range h) 65 32; rwa [qT] at this
def zz32 : List Nat := [0, 0, 0, 0, 0, 0, 0, 0, 0, 0, 0, 0, 0, 0, 0, 0, 0, 0, 0, 0, 0, 0, 0, 0, 0, 0, 0, 0, 0, 0, 0, 0]
theorem zz32_ok : EH.ok zz32 := ⟨rfl, by decide⟩
theorem infoZ32 : (Tryd.prog.info? 34).map (·.size) = some (nums .u8 zz32).toArray.size := by kernel_rfl
set_option maxRecDepth 100000 in
set_option maxHeartbeats 4000000 in
theorem allow_nil (w : World) : Calls Tryd.prog 11 #[.pointer none, hv zz32, hv zz32] w fun e w' => e = .returned (hv zz32) ∧ Below w.heap.size w w' := by
  have A3 := fun z => alloc3p w (.cells (nums .u8 zz32).toArray 34) (.cells (nums .u8 zz32).toArray 34) (.cells z 34)
  unfold hv
  go_enter Tryd.func11, Tryd.ntmps11
  go_upto_region 1 with (fail)
  generalize hW : World.alloc (World.alloc (World.alloc w _) _) _ = wb
  replace A3 : ∃ z : Array Value, z.size = 32 ∧ wb.heap[w.heap.size + 1 + 1]? = some (.cells z 34 (0, 0)) ∧ Below w.heap.size w wb := ⟨_, by rfl, hW ▸ (A3 _).2.2.1, hW ▸ (A3 _).2.2.2⟩
  obtain ⟨z, hz, gZ, b0⟩ := A3
  have HZ := hid gZ
  have B0 := hid b0
  have hsz := hid (show z.size = (nums .u8 zz32).toArray.size by rw [hz]; rfl)
  clear hW gZ b0 hz
  generalize hR : w.heap.size + 1 + 1 = R at *
  go_wp2_with (refine wpList_store_row rfl _ _ _ rfl R (nums .u8 zz32).toArray rfl rfl _ _ HZ.out infoZ32 hsz.out (one32 _) ?_)
  refine bodyPost_ret (results_cellH rfl _ _ R _ (nums .u8 zz32).toArray _ _ rfl (setRow_heap wb R _ _ _ _ HZ.out) Tryd.underlying34 rfl infoZ32) rfl ?_
  exact ⟨rfl, below_setRow B0.out (by omega) _⟩
set_option maxRecDepth 100000 in
set_option maxHeartbeats 4000000 in
theorem allowed_nil (w : World) : Calls Tryd.prog 13 #[.pointer none, hv zz32, hv zz32, hv zz32] w fun e w' => e = .returned (.bool false) ∧ Below w.heap.size w w' := by
  have A3 := alloc3p w (.cells (nums .u8 zz32).toArray 34) (.cells (nums .u8 zz32).toArray 34) (.cells (nums .u8 zz32).toArray 34)
  have b0 := hid A3.2.2.2
  clear A3
  unfold hv
  go_enter Tryd.func13, Tryd.ntmps13
  go_upto_region 1 with (fail)
  generalize World.alloc (World.alloc (World.alloc w _) _) _ = wb at *
  go_wp2
  go_ret
  exact ⟨rfl, b0.out⟩
theorem count_nil (w : World) : Calls Tryd.prog 14 #[.pointer none] w fun e w' => e = .returned (.int .i64 0) ∧ w' = w := by
  go_enter Tryd.func14, Tryd.ntmps14
  go_wp2
  go_ret
  exact ⟨rfl, rfl⟩
theorem z_guard : ∀ (op : BinOp) (x y : Operand) (w : World), (eqGuard op 34 x y (hv zz32) (.agg #[.int .u8 0, .int .u8 0, .int .u8 0, .int .u8 0, .int .u8 0, .int .u8 0, .int .u8 0, .int .u8 0, .int .u8 0, .int .u8 0, .int .u8 0, .int .u8 0, .int .u8 0, .int .u8 0, .int .u8 0, .int .u8 0, .int .u8 0, .int .u8 0, .int .u8 0, .int .u8 0, .int .u8 0, .int .u8 0, .int .u8 0, .int .u8 0, .int .u8 0, .int .u8 0, .int .u8 0, .int .u8 0, .int .u8 0, .int .u8 0, .int .u8 0, .int .u8 0])).run Tryd.prog w = .ok () w := guard_hv zz32 zz32
theorem z_eql : ∀ w : World, (binOp .eql 34 (hv zz32) (.agg #[.int .u8 0, .int .u8 0, .int .u8 0, .int .u8 0, .int .u8 0, .int .u8 0, .int .u8 0, .int .u8 0, .int .u8 0, .int .u8 0, .int .u8 0, .int .u8 0, .int .u8 0, .int .u8 0, .int .u8 0, .int .u8 0, .int .u8 0, .int .u8 0, .int .u8 0, .int .u8 0, .int .u8 0, .int .u8 0, .int .u8 0, .int .u8 0, .int .u8 0, .int .u8 0, .int .u8 0, .int .u8 0, .int .u8 0, .int .u8 0, .int .u8 0, .int .u8 0])).run Tryd.prog w = .ok (.bool true) w := fun w => by
  have := eql_hv (w := w) zz32_ok.1 zz32_ok.1 zz32_ok.2 zz32_ok.2
  rw [decide_eq_true rfl] at this; exact this
set_option maxRecDepth 100000 in
set_option maxHeartbeats 8000000 in
theorem lawTRuns (a : Option Addr) (l c : Nat) (L : List OpX) (w : World) (hS : Ops w a l c L) (ht : Tabs w) :
    Calls Tryd.prog 3 #[.slice a l c] w fun e w' => e = .returned (.bool true) ∧ Below w.heap.size w w' := by
  have HT := hid ht
  have HS := hid hS
  have unH := Tryd.underlying34
  have un32 := Tryd.underlying33
  have unO := Tryd.underlying36
  have ZO := zeroOp
  have hmm := @run_makeMap Tryd.prog
  clear ht hS
  go_enter Tryd.func3, Tryd.ntmps3
  go_wp2_with fail
  refine (tokhead_walk w HT.out).mono ?_
  rintro e w1 ⟨rfl, b1⟩
  have B1 := hid b1
  have hw1 := b1.size
  clear b1
  go_wp2_with fail
  refine (onew_walk _).mono ?_
  rintro e w2 ⟨ob, mb, rfl, ho2, hob, hmb, b2⟩
  have B2 := hid (bstep B1.out b2)
  have HO2 := hid ho2
  have hob' : w.heap.size ≤ ob := by omega
  have hmb' : w.heap.size ≤ mb := by omega
  have hobw := (Array.getElem?_eq_some_iff.1 ho2.st).1
  have hmbw := ho2.map.lt
  clear b2 ho2 hob hmb B1
  go_wp2_with fail
  refine (make_walk _).mono ?_
  rintro e w3 ⟨rfl, b3⟩
  have B3 := hid (bstep B2.out b3)
  have HO3 := hid (HO2.out.below b3)
  have hw23 := b3.size
  rw [tabV_eq]
  clear b3 HO2 B2
  go_upto_region 5 with (refine wpList_store_row rfl _ _ _ rfl w3.heap.size tabC rfl rfl _ _ (heap_alloc_new w3 _) tabC_info tabC_size tabC_one ?_)
  have LA := fun z => laid w3 z tabC 30
  generalize hW : World.setRow _ _ _ = w4
  replace LA := hid (hW ▸ LA _)
  have B4 := hid (bstep B3.out LA.out.2)
  have HO4 := hid (HO3.out.below LA.out.2)
  have T4 := hid LA.out.1
  have hw34 := LA.out.2.size
  have hT4w := (Array.getElem?_eq_some_iff.1 LA.out.1).1
  have hT0 : w.heap.size ≤ w3.heap.size := B3.out.size
  have hTo : w3.heap.size ≠ ob := by omega
  have hTm : w3.heap.size ≠ mb := by omega
  clear hW LA HO3 B3
  generalize w3.heap.size = TT at *
  have m1 := MapIs.made (E := E32) w4
  have bm := (Below.refl w4.heap.size w4).alloc (Nat.le_refl _) (.map #[] 0)
  go_upto_region 6 with (fail)
  generalize hW : World.alloc w4 _ = w5 at *
  have B5 := hid (bstep B4.out bm)
  have HO5 := hid (HO4.out.below bm)
  have T5 := hid (heap_keep T4.out bm)
  have M5 := hid (show MapIs E32 w5 w4.heap.size (valE noneM) 0 from m1)
  have hg5 := M5.out.lt
  have hw45 := bm.size
  clear hW m1 bm B4 HO4 T4
  obtain ⟨gb, hgb⟩ : ∃ gb, gb = w4.heap.size := ⟨_, rfl⟩
  rw [← hgb] at M5 hg5 ⊢
  have hobg : gb ≠ ob := by omega
  have hmbg : gb ≠ mb := by omega
  have hTg : TT ≠ gb := by omega
  have hgb0 : w.heap.size ≤ gb := by omega
  clear hgb
  go_upto_region 7 with (refine wpList_store_row rfl _ _ _ rfl w5.heap.size zOp.cells.toArray rfl rfl _ _ (heap_alloc_new w5 _) (infoOpA zOp_ok) rfl (all_oneCell_toArray (OpX.one _)) ?_)
  have LA := fun z => laid w5 z zOp.cells.toArray 36
  generalize hW : World.setRow _ _ _ = w6
  replace LA := hid (hW ▸ LA _)
  have R6 := hid (show RunR w TT ob mb gb w5.heap.size noneM 0 zOp w6 from ⟨HO5.out.below LA.out.2, M5.out.below LA.out.2, heap_keep T5.out LA.out.2, LA.out.1, zOp_ok, bstep B5.out LA.out.2, ⟨hob', hmb', hgb0, B5.out.size⟩, ⟨hobg, hmbg, by omega, by omega, by omega, hTo, hTm, hTg, by omega⟩⟩)
  clear hW LA HO5 M5 T5 B5 hTo hTm hTg hob' hmb' hobg hmbg hgb0 hT0 hT4w hw34 hw45 hg5 hobw hmbw hw23 hw1 ZO
  generalize w5.heap.size = L6 at *
  go_wp2
  go_loopw [7] (fun x7 wr => ∃ (i : Nat) (M : EM) (n : Nat) (lst : OpX), i ≤ 40 ∧ i ≤ l ∧ n ≤ i ∧ x7 = .int .i64 i ∧ RunR w TT ob mb gb L6 M n lst wr) (fun x7 _ => 40 - (intOf x7).toNat)
  case atStart => exact ⟨0, _, 0, _, by omega, by omega, by omega, rfl, R6.out⟩
  case round =>
    clear R6
    obtain ⟨i, M, n, lst, hi, hil, hni, rfl, hR⟩ := hrel
    have R := hid hR
    clear hR
    by_cases hlt : i < l ∧ i < 40
    · obtain ⟨h1, h2⟩ := hlt
      obtain ⟨b, off, o, ha, hk, hr, hok⟩ := (HS.out.below R.out.bel).get h1
      subst ha
      have hok' := hid hok
      have hiO := hid (infoOp hok)
      have hiOA := hid (infoOpA hok)
      have hzO : ∀ z : Array Value, z.size = 98 → z.size = o.cells.toArray.size := fun z hz => by rw [hz, List.size_toArray, OpX.len hok]
      have hoO := hid (all_oneCell_toArray (OpX.one o))
      clear hk
      have ZO := zeroOp
      have hZ : zOp.cells.toArray.size = 98 := rfl
      generalize zOp.cells.toArray = ZZ at *
      go_upto_region 11 with (first | (refine wpList_load_mid rfl _ _ rfl b (off + i * 98) rfl o.cells _ hr unO rfl hiO.out ?_) | (refine wpList_store_row rfl _ _ _ rfl wr.heap.size o.cells.toArray rfl rfl _ _ (heap_alloc_new wr _) hiOA.out (hzO _ hZ) hoO.out ?_))
      have LA := fun z => laid wr z o.cells.toArray 36
      generalize hW : World.setRow _ _ _ = wb
      replace LA := hid (hW ▸ LA _)
      have Rb := hid (R.out.below LA.out.2)
      have V8 := hid LA.out.1
      have hV8n : ob < wr.heap.size ∧ mb < wr.heap.size ∧ gb < wr.heap.size ∧ L6 < wr.heap.size ∧ TT < wr.heap.size := ⟨(Array.getElem?_eq_some_iff.1 R.out.off.st).1, R.out.off.map.lt, R.out.giv.lt, (Array.getElem?_eq_some_iff.1 R.out.las).1, (Array.getElem?_eq_some_iff.1 R.out.tab).1⟩
      have hV0 : w.heap.size ≤ wr.heap.size := R.out.bel.size
      have hVw := (Array.getElem?_eq_some_iff.1 LA.out.1).1
      clear hW LA hr hzO R ZO hZ
      generalize wr.heap.size = V at *
      have rV := row_range V8.out
      obtain ⟨q0, q97, qA, qB, qT⟩ := OpX.at' hok'.out
      have c0 := gen_cell rV q0
      by_cases hask : o.ask = true
      · rw [hask] at c0
        have c97 := gen_cell rV q97
        by_cases hlast : o.last = true
        · rw [hlast] at c97
          have hne1 : ob ≠ V := by omega
          have hne2 : mb ≠ V := by omega
          have hne3 : gb ≠ V := by omega
          have hne4 : L6 ≠ V := by omega
          have hne5 : TT ≠ V := by omega
          obtain ⟨lA, _, lT⟩ := op_part Rb.out.las Rb.out.lok
          have iLA := hid (infoHl Rb.out.lok.1)
          have iLAa := hid (infoHa Rb.out.lok.1)
          have iLT := hid (infoHl Rb.out.lok.2.2)
          have iLTa := hid (infoHa Rb.out.lok.2.2)
          have th1 := tag_there (o := 1) (n := 32) V8.out (by rw [List.size_toArray, OpX.len hok'.out]; decide)
          have s1 : (nums .u8 lst.A).toArray.size = 32 := by simp [Rb.out.lok.1.1]
          have s2 : (nums .u8 lst.T).toArray.size = 32 := by simp [Rb.out.lok.2.2.1]
          have hV1 := heap_setCells (nums .u8 lst.A) 1 wb _ V8.out
          rw [OpX.setA hok'.out Rb.out.lok.1] at hV1
          have F1 := far_setCells (nums .u8 lst.A) 1 wb (g := V)
          have okA := hid (OpX.okA hok'.out Rb.out.lok.1)
          have VA := hid hV1
          have RA1 := hid (Rb.out.far F1 hV0 hne1 hne2 hne3 hne4 hne5)
          clear hV1 F1 qA qB qT q0 q97 rV
          go_upto_region 22 with (first | (refine wpList_load_mid rfl _ _ rfl L6 1 rfl (nums .u8 lst.A) _ lA unH rfl iLA.out ?_) | (refine wpList_store_mid rfl _ _ _ rfl V 1 (nums .u8 lst.A).toArray rfl rfl (by rw [s1]; exact th1) iLAa.out (one32 _) ?_))
          change Code.wp _ _ _ _ (wb.setCells V 1 (nums .u8 lst.A)) 
          generalize wb.setCells V 1 (nums .u8 lst.A) = wc at *
          have th2 := tag_there (o := 65) (n := 32) VA.out (by rw [List.size_toArray, OpX.len okA.out]; decide)
          obtain ⟨_, _, lT⟩ := op_part RA1.out.las RA1.out.lok
          have hV1 := heap_setCells (nums .u8 lst.T) 65 wc _ VA.out
          rw [OpX.setT okA.out RA1.out.lok.2.2] at hV1
          have F1 := far_setCells (nums .u8 lst.T) 65 wc (g := V)
          have okk := hid (OpX.okT okA.out RA1.out.lok.2.2)
          have V8k := hid hV1
          have Rk := hid (RA1.out.far F1 hV0 hne1 hne2 hne3 hne4 hne5)
          clear hV1 F1 lA th1 VA RA1 okA c0 c97 V8 Rb
          go_upto_region 23 with (first | (refine wpList_load_mid rfl _ _ rfl L6 65 rfl (nums .u8 lst.T) _ lT unH rfl iLT.out ?_) | (refine wpList_store_mid rfl _ _ _ rfl V 65 (nums .u8 lst.T).toArray rfl rfl (by rw [s2]; exact th2) iLTa.out (one32 _) ?_))
          change Code.wp _ _ _ _ (wc.setCells V 65 (nums .u8 lst.T)) 
          generalize wc.setCells V 65 (nums .u8 lst.T) = wd at *
          clear lT th2
          obtain ⟨O, hO⟩ : ∃ O : OpX, O = OpX.mk o.ask lst.A o.B lst.T o.last := ⟨_, rfl⟩
          rw [← hO] at V8k okk
          clear hO
          obtain ⟨pA, pB, pT⟩ := op_part V8k.out okk.out
          have iA := hid (infoHl okk.out.1)
          have iB := hid (infoHl okk.out.2.1)
          have iT := hid (infoHl okk.out.2.2)
          have hval : ∃ (CS : List Value) (kb : Bool), (valE M O.T).getD (.agg zE) = .agg CS.toArray ∧ (valE M O.T).isSome = kb ∧ CS.length = 64 ∧ (∀ v ∈ CS, v.oneCell' = true) ∧ ((kb = false ∧ M O.T = none) ∨ ∃ en, kb = true ∧ M O.T = some en ∧ CS = nums .u8 (en.1 ++ en.2)) := by
            unfold valE
            cases hM : M O.T with
            | none => exact ⟨nums .u8 (List.replicate 64 0), false, rfl, rfl, by simp, nums_oneCell _ _, .inl ⟨rfl, rfl⟩⟩
            | some en =>
              have := Rk.out.off.ok _ _ hM
              exact ⟨nums .u8 (en.1 ++ en.2), true, rfl, rfl, by simp [this.1.1, this.2.1], nums_oneCell _ _, .inr ⟨en, rfl, rfl, rfl⟩⟩
          obtain ⟨CS, kb, hv1, hv2, hv4, hv5, hv6⟩ := hval
          have hiCS := hid (show (Tryd.prog.info? 41).map (·.size) = some CS.toArray.size by rw [List.size_toArray, hv4]; kernel_rfl)
          have hzCS : ∀ z : Array Value, z.size = 64 → z.size = CS.toArray.size := fun z hz => by rw [hz, List.size_toArray, hv4]
          have ZG := zeroG
          have hzE : zE.size = 64 := rfl
          have LKW := fun (ops : Array Oper) (rest : List Oper) (o' : Oper) (aa : Act) (Q : Exit → Act → World → Prop) (hg : o'.guard = none) (m x : Operand) (hop : o'.op = Op.lookup 32 m x true) (hm : aa.eval m = .map (some gb)) (hx : aa.eval x = hv O.T) hK => wpList_look (ops := ops) (rest := rest) (a := aa) (Q := Q) hg m x _ true hop unG (zeroG _) Rk.out.giv hm O.T okk.out.2.2 hx hK
          rw [hv1, hv2] at LKW
          simp only [if_true] at LKW
          have H6 := hid hv6
          clear hv1 hv2 hv4 hv6
          generalize zE = ZE at *
          go_upto_region 24 with (first | (refine wpList_load_mid rfl _ _ rfl V 65 rfl (nums .u8 O.T) _ pT unH rfl iT.out ?_) | (refine LKW _ _ _ _ _ rfl _ _ rfl rfl rfl ?_) | (refine wpList_store_row rfl _ _ _ rfl wd.heap.size CS.toArray rfl rfl _ _ (heap_alloc_new wd _) hiCS.out (hzCS _ hzE) (all_oneCell_toArray hv5) ?_))
          have LA := fun z => laid wd z CS.toArray 41
          generalize hWW : World.setRow _ _ _ = wg
          replace LA := hid (hWW ▸ LA _)
          have Rg := hid (Rk.out.below LA.out.2)
          have V8g := hid (heap_keep V8k.out LA.out.2)
          have W13 := hid LA.out.1
          clear hWW LA hiCS hzCS ZG hzE LKW hv5 pA pB pT Rk V8k
          generalize wd.heap.size = W at *
          obtain ⟨pA, pB, pT⟩ := op_part V8g.out okk.out
          have AW := fun w h => allowed_walk O.A O.B O.T okk.out.1 okk.out.2.1 okk.out.2.2 ob mb n M w h
          obtain ⟨ab, hab⟩ : ∃ ab, ab = aldB M O.A O.B O.T := ⟨_, rfl⟩
          rw [← hab] at AW
          have AW := hid AW
          have HAB := hid hab
          clear hab
          rcases H6.out with ⟨rfl, hM⟩ | ⟨en, rfl, hM, rfl⟩
          · have hab' : ab = false := by rw [HAB.out]; unfold aldB; rw [hM]; simp
            subst hab'
            clear HAB H6 hM
            go_wp2_with (first | (refine wpList_load_mid rfl _ _ rfl V 65 rfl (nums .u8 O.T) _ pT unH rfl iT.out ?_) | (refine wpList_load_mid rfl _ _ rfl V 1 rfl (nums .u8 O.A) _ pA unH rfl iA.out ?_) | (refine wpList_load_mid rfl _ _ rfl V 33 rfl (nums .u8 O.B) _ pB unH rfl iB.out ?_))
            refine (AW.out _ Rg.out.off).mono ?_
            rintro e wh ⟨rfl, bh⟩
            have RN := hid (Rg.out.below bh)
            clear bh pA pB pT Rg V8g W13
            go_wp2_with fail
            refine (count_walk ob mb n M _ RN.out.off).mono ?_
            rintro e wl ⟨rfl, rfl⟩
            have hlen := RN.out.giv.len unG 3
            go_wp2
            go_roundw
            case rel => exact ⟨i + 1, M, n, _, by omega, by omega, by omega, by go_num, RN.out⟩
            case measure => simp [intOf]; omega
          · have heo := Rg.out.off.ok _ _ hM
            have w1 : wg.rangeAt W 0 (nums .u8 en.1) := by
              have := gen_range (row_range W13.out) 0 32
              rw [List.drop_zero, ← nums_append, List.take_left' (by rw [nums_length, heo.1.1])] at this; exact this
            have w2 : wg.rangeAt W 32 (nums .u8 en.2) := by
              have := gen_range (row_range W13.out) 32 32
              rw [← nums_append, List.drop_left' (by rw [nums_length, heo.1.1]), List.take_of_length_le (by rw [nums_length, heo.2.1]; exact Nat.le_refl _)] at this; exact this
            have i1 := hid (infoOl heo.1.1)
            have i2 := hid (infoOl heo.2.1)
            obtain ⟨ba, hba⟩ : ∃ ba : Bool, ba = decide (en.1 = O.A) := ⟨_, rfl⟩
            obtain ⟨bb, hbb⟩ : ∃ bb : Bool, bb = decide (en.2 = O.B) := ⟨_, rfl⟩
            have e1 : ∀ w : World, (binOp .eql 33 (.agg (nums .u8 en.1).toArray) (.agg (nums .u8 O.A).toArray)).run Tryd.prog w = .ok (.bool ba) w := fun w => hba ▸ run_eql_hv un32 w heo.1.1 okk.out.1.1 heo.1.2 okk.out.1.2
            have e2 : ∀ w : World, (binOp .eql 33 (.agg (nums .u8 en.2).toArray) (.agg (nums .u8 O.B).toArray)).run Tryd.prog w = .ok (.bool bb) w := fun w => hbb ▸ run_eql_hv un32 w heo.2.1 okk.out.2.1.1 heo.2.2 okk.out.2.1.2
            have g1 := keyArr.guarded (nums .u8 en.1).toArray (nums .u8 O.A).toArray
            have g2 := keyArr.guarded (nums .u8 en.2).toArray (nums .u8 O.B).toArray
            have hab' : ab = (ba && bb) := by
              rw [HAB.out, hba, hbb]; unfold aldB; rw [hM]
              obtain ⟨x1, x2⟩ := en
              simp [Prod.ext_iff]
            clear HAB H6 hM hba hbb W13
            subst hab'
            have K1 := hid w1
            have K2 := hid w2
            have KA := hid pA
            have KB := hid pB
            clear w1 w2
            go_wp2_with (first | (refine wpList_load_mid rfl _ _ rfl V 65 rfl (nums .u8 O.T) _ pT unH rfl iT.out ?_) | (refine wpList_load_mid rfl _ _ rfl V 1 rfl (nums .u8 O.A) _ pA unH rfl iA.out ?_) | (refine wpList_load_mid rfl _ _ rfl V 33 rfl (nums .u8 O.B) _ pB unH rfl iB.out ?_))
            refine (AW.out _ Rg.out.off).mono ?_
            rintro e wh ⟨rfl, bh⟩
            have RN := hid (Rg.out.below bh)
            have w1 := range_keep bh K1.out
            have w2 := range_keep bh K2.out
            have pA := range_keep bh KA.out
            have pB := range_keep bh KB.out
            clear bh pT Rg V8g K1 K2 KA KB
            cases ba
            · go_wp2_with (first | (refine wpList_load_midG rfl _ _ rfl W 0 rfl (nums .u8 en.1) _ w1 un32 rfl i1.out ?_) | (refine wpList_load_midG rfl _ _ rfl V 1 rfl (nums .u8 O.A) _ pA unH rfl iA.out ?_))
              refine (count_walk ob mb n M _ RN.out.off).mono ?_
              rintro e wl ⟨rfl, rfl⟩
              have hlen := RN.out.giv.len unG 3
              go_wp2
              go_roundw
              case rel => exact ⟨i + 1, M, n, _, by omega, by omega, by omega, by go_num, RN.out⟩
              case measure => simp [intOf]; omega
            · cases bb
              · go_wp2_with (first | (refine wpList_load_midG rfl _ _ rfl W 0 rfl (nums .u8 en.1) _ w1 un32 rfl i1.out ?_) | (refine wpList_load_midG rfl _ _ rfl V 1 rfl (nums .u8 O.A) _ pA unH rfl iA.out ?_) | (refine wpList_load_midG rfl _ _ rfl W 32 rfl (nums .u8 en.2) _ w2 un32 rfl i2.out ?_) | (refine wpList_load_midG rfl _ _ rfl V 33 rfl (nums .u8 O.B) _ pB unH rfl iB.out ?_))
                refine (count_walk ob mb n M _ RN.out.off).mono ?_
                rintro e wl ⟨rfl, rfl⟩
                have hlen := RN.out.giv.len unG 3
                go_wp2
                go_roundw
                case rel => exact ⟨i + 1, M, n, _, by omega, by omega, by omega, by go_num, RN.out⟩
                case measure => simp [intOf]; omega
              · go_wp2_with (first | (refine wpList_load_midG rfl _ _ rfl W 0 rfl (nums .u8 en.1) _ w1 un32 rfl i1.out ?_) | (refine wpList_load_midG rfl _ _ rfl V 1 rfl (nums .u8 O.A) _ pA unH rfl iA.out ?_) | (refine wpList_load_midG rfl _ _ rfl W 32 rfl (nums .u8 en.2) _ w2 un32 rfl i2.out ?_) | (refine wpList_load_midG rfl _ _ rfl V 33 rfl (nums .u8 O.B) _ pB unH rfl iB.out ?_))
                refine (count_walk ob mb n M _ RN.out.off).mono ?_
                rintro e wl ⟨rfl, rfl⟩
                have hlen := RN.out.giv.len unG 3
                go_wp2
                go_roundw
                case rel => exact ⟨i + 1, M, n, _, by omega, by omega, by omega, by go_num, RN.out⟩
                case measure => simp [intOf]; omega
        · have hlast' : o.last = false := by simpa using hlast
          rw [hlast'] at c97
          clear hlast
          have okk := hok'
          have V8k := V8
          have Rk := Rb
          clear qA qB qT q0 q97 rV V8 Rb hok'
          go_upto_region 23 with (fail)
          clear c0 c97
          obtain ⟨O, hO⟩ : ∃ O : OpX, O = o := ⟨_, rfl⟩
          rw [← hO] at V8k okk
          clear hO
          obtain ⟨pA, pB, pT⟩ := op_part V8k.out okk.out
          have iA := hid (infoHl okk.out.1)
          have iB := hid (infoHl okk.out.2.1)
          have iT := hid (infoHl okk.out.2.2)
          have hval : ∃ (CS : List Value) (kb : Bool), (valE M O.T).getD (.agg zE) = .agg CS.toArray ∧ (valE M O.T).isSome = kb ∧ CS.length = 64 ∧ (∀ v ∈ CS, v.oneCell' = true) ∧ ((kb = false ∧ M O.T = none) ∨ ∃ en, kb = true ∧ M O.T = some en ∧ CS = nums .u8 (en.1 ++ en.2)) := by
            unfold valE
            cases hM : M O.T with
            | none => exact ⟨nums .u8 (List.replicate 64 0), false, rfl, rfl, by simp, nums_oneCell _ _, .inl ⟨rfl, rfl⟩⟩
            | some en =>
              have := Rk.out.off.ok _ _ hM
              exact ⟨nums .u8 (en.1 ++ en.2), true, rfl, rfl, by simp [this.1.1, this.2.1], nums_oneCell _ _, .inr ⟨en, rfl, rfl, rfl⟩⟩
          obtain ⟨CS, kb, hv1, hv2, hv4, hv5, hv6⟩ := hval
          have hiCS := hid (show (Tryd.prog.info? 41).map (·.size) = some CS.toArray.size by rw [List.size_toArray, hv4]; kernel_rfl)
          have hzCS : ∀ z : Array Value, z.size = 64 → z.size = CS.toArray.size := fun z hz => by rw [hz, List.size_toArray, hv4]
          have ZG := zeroG
          have hzE : zE.size = 64 := rfl
          have LKW := fun (ops : Array Oper) (rest : List Oper) (o' : Oper) (aa : Act) (Q : Exit → Act → World → Prop) (hg : o'.guard = none) (m x : Operand) (hop : o'.op = Op.lookup 32 m x true) (hm : aa.eval m = .map (some gb)) (hx : aa.eval x = hv O.T) hK => wpList_look (ops := ops) (rest := rest) (a := aa) (Q := Q) hg m x _ true hop unG (zeroG _) Rk.out.giv hm O.T okk.out.2.2 hx hK
          rw [hv1, hv2] at LKW
          simp only [if_true] at LKW
          have H6 := hid hv6
          clear hv1 hv2 hv4 hv6
          generalize zE = ZE at *
          go_upto_region 24 with (first | (refine wpList_load_mid rfl _ _ rfl V 65 rfl (nums .u8 O.T) _ pT unH rfl iT.out ?_) | (refine LKW _ _ _ _ _ rfl _ _ rfl rfl rfl ?_) | (refine wpList_store_row rfl _ _ _ rfl wb.heap.size CS.toArray rfl rfl _ _ (heap_alloc_new wb _) hiCS.out (hzCS _ hzE) (all_oneCell_toArray hv5) ?_))
          have LA := fun z => laid wb z CS.toArray 41
          generalize hWW : World.setRow _ _ _ = wg
          replace LA := hid (hWW ▸ LA _)
          have Rg := hid (Rk.out.below LA.out.2)
          have V8g := hid (heap_keep V8k.out LA.out.2)
          have W13 := hid LA.out.1
          clear hWW LA hiCS hzCS ZG hzE LKW hv5 pA pB pT Rk V8k
          generalize wb.heap.size = W at *
          obtain ⟨pA, pB, pT⟩ := op_part V8g.out okk.out
          have AW := fun w h => allowed_walk O.A O.B O.T okk.out.1 okk.out.2.1 okk.out.2.2 ob mb n M w h
          obtain ⟨ab, hab⟩ : ∃ ab, ab = aldB M O.A O.B O.T := ⟨_, rfl⟩
          rw [← hab] at AW
          have AW := hid AW
          have HAB := hid hab
          clear hab
          rcases H6.out with ⟨rfl, hM⟩ | ⟨en, rfl, hM, rfl⟩
          · have hab' : ab = false := by rw [HAB.out]; unfold aldB; rw [hM]; simp
            subst hab'
            clear HAB H6 hM
            go_wp2_with (first | (refine wpList_load_mid rfl _ _ rfl V 65 rfl (nums .u8 O.T) _ pT unH rfl iT.out ?_) | (refine wpList_load_mid rfl _ _ rfl V 1 rfl (nums .u8 O.A) _ pA unH rfl iA.out ?_) | (refine wpList_load_mid rfl _ _ rfl V 33 rfl (nums .u8 O.B) _ pB unH rfl iB.out ?_))
            refine (AW.out _ Rg.out.off).mono ?_
            rintro e wh ⟨rfl, bh⟩
            have RN := hid (Rg.out.below bh)
            clear bh pA pB pT Rg V8g W13
            go_wp2_with fail
            refine (count_walk ob mb n M _ RN.out.off).mono ?_
            rintro e wl ⟨rfl, rfl⟩
            have hlen := RN.out.giv.len unG 3
            go_wp2
            go_roundw
            case rel => exact ⟨i + 1, M, n, _, by omega, by omega, by omega, by go_num, RN.out⟩
            case measure => simp [intOf]; omega
          · have heo := Rg.out.off.ok _ _ hM
            have w1 : wg.rangeAt W 0 (nums .u8 en.1) := by
              have := gen_range (row_range W13.out) 0 32
              rw [List.drop_zero, ← nums_append, List.take_left' (by rw [nums_length, heo.1.1])] at this; exact this
            have w2 : wg.rangeAt W 32 (nums .u8 en.2) := by
              have := gen_range (row_range W13.out) 32 32
              rw [← nums_append, List.drop_left' (by rw [nums_length, heo.1.1]), List.take_of_length_le (by rw [nums_length, heo.2.1]; exact Nat.le_refl _)] at this; exact this
            have i1 := hid (infoOl heo.1.1)
            have i2 := hid (infoOl heo.2.1)
            obtain ⟨ba, hba⟩ : ∃ ba : Bool, ba = decide (en.1 = O.A) := ⟨_, rfl⟩
            obtain ⟨bb, hbb⟩ : ∃ bb : Bool, bb = decide (en.2 = O.B) := ⟨_, rfl⟩
            have e1 : ∀ w : World, (binOp .eql 33 (.agg (nums .u8 en.1).toArray) (.agg (nums .u8 O.A).toArray)).run Tryd.prog w = .ok (.bool ba) w := fun w => hba ▸ run_eql_hv un32 w heo.1.1 okk.out.1.1 heo.1.2 okk.out.1.2
            have e2 : ∀ w : World, (binOp .eql 33 (.agg (nums .u8 en.2).toArray) (.agg (nums .u8 O.B).toArray)).run Tryd.prog w = .ok (.bool bb) w := fun w => hbb ▸ run_eql_hv un32 w heo.2.1 okk.out.2.1.1 heo.2.2 okk.out.2.1.2
            have g1 := keyArr.guarded (nums .u8 en.1).toArray (nums .u8 O.A).toArray
            have g2 := keyArr.guarded (nums .u8 en.2).toArray (nums .u8 O.B).toArray
            have hab' : ab = (ba && bb) := by
              rw [HAB.out, hba, hbb]; unfold aldB; rw [hM]
              obtain ⟨x1, x2⟩ := en
              simp [Prod.ext_iff]
            clear HAB H6 hM hba hbb W13
            subst hab'
            have K1 := hid w1
            have K2 := hid w2
            have KA := hid pA
            have KB := hid pB
            clear w1 w2
            go_wp2_with (first | (refine wpList_load_mid rfl _ _ rfl V 65 rfl (nums .u8 O.T) _ pT unH rfl iT.out ?_) | (refine wpList_load_mid rfl _ _ rfl V 1 rfl (nums .u8 O.A) _ pA unH rfl iA.out ?_) | (refine wpList_load_mid rfl _ _ rfl V 33 rfl (nums .u8 O.B) _ pB unH rfl iB.out ?_))
            refine (AW.out _ Rg.out.off).mono ?_
            rintro e wh ⟨rfl, bh⟩
            have RN := hid (Rg.out.below bh)
            have w1 := range_keep bh K1.out
            have w2 := range_keep bh K2.out
            have pA := range_keep bh KA.out
            have pB := range_keep bh KB.out
            clear bh pT Rg V8g K1 K2 KA KB
            cases ba
            · go_wp2_with (first | (refine wpList_load_midG rfl _ _ rfl W 0 rfl (nums .u8 en.1) _ w1 un32 rfl i1.out ?_) | (refine wpList_load_midG rfl _ _ rfl V 1 rfl (nums .u8 O.A) _ pA unH rfl iA.out ?_))
              refine (count_walk ob mb n M _ RN.out.off).mono ?_
              rintro e wl ⟨rfl, rfl⟩
              have hlen := RN.out.giv.len unG 3
              go_wp2
              go_roundw
              case rel => exact ⟨i + 1, M, n, _, by omega, by omega, by omega, by go_num, RN.out⟩
              case measure => simp [intOf]; omega
            · cases bb
              · go_wp2_with (first | (refine wpList_load_midG rfl _ _ rfl W 0 rfl (nums .u8 en.1) _ w1 un32 rfl i1.out ?_) | (refine wpList_load_midG rfl _ _ rfl V 1 rfl (nums .u8 O.A) _ pA unH rfl iA.out ?_) | (refine wpList_load_midG rfl _ _ rfl W 32 rfl (nums .u8 en.2) _ w2 un32 rfl i2.out ?_) | (refine wpList_load_midG rfl _ _ rfl V 33 rfl (nums .u8 O.B) _ pB unH rfl iB.out ?_))
                refine (count_walk ob mb n M _ RN.out.off).mono ?_
                rintro e wl ⟨rfl, rfl⟩
                have hlen := RN.out.giv.len unG 3
                go_wp2
                go_roundw
                case rel => exact ⟨i + 1, M, n, _, by omega, by omega, by omega, by go_num, RN.out⟩
                case measure => simp [intOf]; omega
              · go_wp2_with (first | (refine wpList_load_midG rfl _ _ rfl W 0 rfl (nums .u8 en.1) _ w1 un32 rfl i1.out ?_) | (refine wpList_load_midG rfl _ _ rfl V 1 rfl (nums .u8 O.A) _ pA unH rfl iA.out ?_) | (refine wpList_load_midG rfl _ _ rfl W 32 rfl (nums .u8 en.2) _ w2 un32 rfl i2.out ?_) | (refine wpList_load_midG rfl _ _ rfl V 33 rfl (nums .u8 O.B) _ pB unH rfl iB.out ?_))
                refine (count_walk ob mb n M _ RN.out.off).mono ?_
                rintro e wl ⟨rfl, rfl⟩
                have hlen := RN.out.giv.len unG 3
                go_wp2
                go_roundw
                case rel => exact ⟨i + 1, M, n, _, by omega, by omega, by omega, by go_num, RN.out⟩
                case measure => simp [intOf]; omega
      · have hask' : o.ask = false := by simpa using hask
        rw [hask'] at c0
        clear hask
        go_upto_region 12 with (fail)
        have hSA := hid (rd_mid (xs := o.A) (n := 32) V8.out hok'.out.1.1 qA (by decide))
        have hSB := hid (rd_mid (xs := o.B) (n := 32) V8.out hok'.out.2.1.1 qB (by decide))
        have RT := hid (row_range (L := nums .u32 (H0 ++ K0)) Rb.out.tab)
        have hiT := hid infoTl
        rename_i K aK
        have MID : ∀ (X9 : Nat) (v39 v40 v41 v42 v43 v44 v45 : Value) (wz : World), wb.heap.size ≤ X9 → wz.heap[X9]? = some (.cells (nums .u8 (tokD o.A o.B)).toArray 33 (0, 0)) → Below wb.heap.size wb wz → K ⟨#[Value.slice (some ⟨b, off, none⟩) l c, undef, u2, Value.pointer (some ⟨ob, 0, none⟩), Value.pointer (some ⟨TT, 0, none⟩), Value.map (some gb), Value.pointer (some ⟨L6, 0, none⟩), Value.int IntKind.i64 (i : Int), Value.pointer (some ⟨V, 0, none⟩), .pointer (some ⟨X9, 0, none⟩), u10, u11, u12, u13, u14, undef, Value.bool true, Value.bool false, Value.pointer (some ⟨ob, 0, none⟩), Value.agg tabC, Value.map (some gb), Value.agg ZZ, Value.int IntKind.i64 (i : Int), Value.slice (some ⟨b, off, none⟩) l c, Value.int IntKind.i64 (l : Int), Value.bool true, Value.bool true, Value.int IntKind.i64 (i : Int), Value.bool true, Value.bool true, u30, u31, Value.slice (some ⟨b, off, none⟩) l c, Value.int IntKind.i64 (i : Int), Value.pointer (some ⟨b, off + i * 98, none⟩), Value.agg o.cells.toArray, Value.pointer (some ⟨V, 0, none⟩), Value.bool false, Value.bool true, v39, v40, v41, v42, v43, v44, v45, u46, u47, u48, u49, u50, u51, u52, u53, u54, u55, u56, u57, u58, u59, u60, u61, u62, u63, u64, u65, u66, u67, u68, u69, u70, u71, u72, u73, u74, u75, u76, u77, u78, u79, u80, u81, u82, u83, u84, u85, u86, u87, u88, u89, u90, u91, u92, u93, u94, u95, u96, u97, u98, u99, u100, u101, u102, u103, u104, u105, u106, u107, u108, u109, u110, u111, u112, u113, u114, u115, u116, u117, u118, u119, u120, u121, u122, u123, u124, u125, u126, u127, u128, undef, undef, undef, undef, undef, undef, undef, undef, undef, undef, undef, undef, undef, undef, undef, undef, undef, undef, undef], []⟩ wz := by
          intro X9 v39 v40 v41 v42 v43 v44 v45 wz hX9 g9 bz
          refine aK _ _ ?_
          have Rz := hid (Rb.out.below bz)
          have V8z := hid (heap_keep V8.out bz)
          have hSAz := hid (hSA.out.below bz)
          have RTz := hid (range_keep bz RT.out)
          have G9 := hid g9
          have h9w := (Array.getElem?_eq_some_iff.1 g9).1
          have hbz := bz.size
          clear bz g9 c0
          go_upto_region 13 with (fail)
          rename_i K2 aK2
          have MID2 : ∀ (X10 : Nat) (y46 y47 y48 y49 y50 : Value) (wy : World), wz.heap.size ≤ X10 → wy.heap[X10]? = some (.cells (nums .u8 (ownD o.A)).toArray 33 (0, 0)) → Below wz.heap.size wz wy → K2 ⟨#[Value.slice (some ⟨b, off, none⟩) l c, undef, u2, Value.pointer (some ⟨ob, 0, none⟩), Value.pointer (some ⟨TT, 0, none⟩), Value.map (some gb), Value.pointer (some ⟨L6, 0, none⟩), Value.int IntKind.i64 (i : Int), Value.pointer (some ⟨V, 0, none⟩), .pointer (some ⟨X9, 0, none⟩), .pointer (some ⟨X10, 0, none⟩), u11, u12, u13, u14, undef, Value.bool true, Value.bool false, Value.pointer (some ⟨ob, 0, none⟩), Value.agg tabC, Value.map (some gb), Value.agg ZZ, Value.int IntKind.i64 (i : Int), Value.slice (some ⟨b, off, none⟩) l c, Value.int IntKind.i64 (l : Int), Value.bool true, Value.bool true, Value.int IntKind.i64 (i : Int), Value.bool true, Value.bool true, u30, u31, Value.slice (some ⟨b, off, none⟩) l c, Value.int IntKind.i64 (i : Int), Value.pointer (some ⟨b, off + i * 98, none⟩), Value.agg o.cells.toArray, Value.pointer (some ⟨V, 0, none⟩), Value.bool false, Value.bool true, v39, v40, v41, v42, v43, v44, v45, y46, y47, y48, y49, y50, u51, u52, u53, u54, u55, u56, u57, u58, u59, u60, u61, u62, u63, u64, u65, u66, u67, u68, u69, u70, u71, u72, u73, u74, u75, u76, u77, u78, u79, u80, u81, u82, u83, u84, u85, u86, u87, u88, u89, u90, u91, u92, u93, u94, u95, u96, u97, u98, u99, u100, u101, u102, u103, u104, u105, u106, u107, u108, u109, u110, u111, u112, u113, u114, u115, u116, u117, u118, u119, u120, u121, u122, u123, u124, u125, u126, u127, u128, undef, undef, undef, undef, undef, undef, undef, undef, undef, undef, undef, undef, undef, undef, undef, undef, undef, undef, undef], []⟩ wy := by
            intro X10 y46 y47 y48 y49 y50 wy hX10 g10 by'
            refine aK2 _ _ ?_
            have Ry := hid (Rz.out.below by')
            have V8y := hid (heap_keep V8z.out by')
            have G9y := hid (heap_keep G9.out by')
            have G10 := hid g10
            have hzy := by'.size
            have h10w := (Array.getElem?_eq_some_iff.1 g10).1
            clear by' g10 hSAz RTz hSA hSB RT
            have hVo := hid (show V ≠ ob ∧ V ≠ mb by omega)
            have h9o := hid (show X9 ≠ ob ∧ X9 ≠ mb by omega)
            have h10o := hid (show X10 ≠ ob ∧ X10 ≠ mb by omega)
            have RA := hid (show wy.rangeAt V 1 (nums .u8 o.A) from by have := gen_range (row_range V8y.out) 1 32; rwa [qA] at this)
            have RB := hid (show wy.rangeAt V 33 (nums .u8 o.B) from by have := gen_range (row_range V8y.out) 33 32; rwa [qB] at this)
            have R9 := hid (row_range G9y.out)
            have R10 := hid (row_range G10.out)
            have hiA := hid (infoHl hok'.out.1)
            have hiB := hid (infoHl hok'.out.2.1)
            have hi9 := hid (infoOl (tokD_ok o.A o.B).1)
            have hi10 := hid (infoOl (ownD_ok o.A).1)
            have HOy := hid Ry.out.off
            have HTy := hid (HT.out.below Ry.out.bel)
            have hTB := hid (show 0 < w.heap.size ∧ 1 < w.heap.size from ⟨by have := World.block_lt_of_cell? w _ (HT.out.1 0 (by decide)); simpa using this, by have := World.block_lt_of_cell? w _ (HT.out.2 0 (by decide)); simpa using this⟩)
            have hlo1 := Ry.out.lo.1
            have hlo2 := Ry.out.lo.2.1
            have e1 : ∀ (op : BinOp) (x y : Operand) (w : World), (eqGuard op 34 x y (hv (tokD o.A o.B)) (.agg (nums .u8 (tokD o.A o.B)).toArray)).run Tryd.prog w = .ok () w := guard_hv _ _
            have e2 : ∀ w, (binOp .neq 34 (hv (tokD o.A o.B)) (.agg (nums .u8 (tokD o.A o.B)).toArray)).run Tryd.prog w = .ok (.bool false) w := fun w => by
              have := neq_hv (w := w) (tokD_ok o.A o.B).1 (tokD_ok o.A o.B).1 (tokD_ok o.A o.B).2 (tokD_ok o.A o.B).2
              rw [decide_eq_true rfl] at this; exact this
            have e3 : ∀ (op : BinOp) (x y : Operand) (w : World), (eqGuard op 34 x y (hv (ownD o.A)) (.agg (nums .u8 (ownD o.A)).toArray)).run Tryd.prog w = .ok () w := guard_hv _ _
            have e4 : ∀ w, (binOp .neq 34 (hv (ownD o.A)) (.agg (nums .u8 (ownD o.A)).toArray)).run Tryd.prog w = .ok (.bool false) w := fun w => by
              have := neq_hv (w := w) (ownD_ok o.A).1 (ownD_ok o.A).1 (ownD_ok o.A).2 (ownD_ok o.A).2
              rw [decide_eq_true rfl] at this; exact this
            go_upto_region 14 with (fail)
            refine wp_region_held_drew (S := fun w' => Far2 ob mb wy w') (by kernel_rfl) (Far.l2 mb (Far.of ((Below.refl _ _).drew))) (fun hHeld => ?_)
            try simp only [List.size_toArray, List.length_cons, List.length_nil, Nat.reduceAdd, Array.replicate_succ, Array.replicate_zero, List.push_toArray, List.nil_append, List.cons_append]
            refine wpAnyH_take (i := 0) (oi := { dst := some 51, op := Op.move (Operand.tmp 3), type := 24, pos := "law.go:44", after := #[], guard := none }) (v := ?vc1) rfl (by kernel_rfl) (by kernel_rfl) (by kernel_rfl) (fun _ _ _ h => h) (Or.inl ⟨by rfl, ?hyc1⟩) hHeld ?_
            case hyc1 => (intro w hSw; (try dsimp only at hSw); go_simp; (try with_reducible rfl))
            (try simp only [Act.put, List.setIfInBounds_toArray, List.set_cons_zero, List.set_cons_succ])
            refine wpAnyH_take (i := 1) (oi := { dst := some 52, op := Op.fieldAddr 36 (Operand.tmp 8) 1, type := 0, pos := "law.go:44", after := #[], guard := none }) (v := ?vc2) rfl (by kernel_rfl) (by kernel_rfl) (by kernel_rfl) (fun _ _ _ h => h) (Or.inl ⟨by rfl, ?hyc2⟩) hHeld ?_
            case hyc2 => (intro w hSw; (try dsimp only at hSw); go_simp; (try with_reducible rfl))
            (try simp only [Act.put, List.setIfInBounds_toArray, List.set_cons_zero, List.set_cons_succ])
            refine' wpAnyH_take (i := 2) (oi := { dst := some 53, op := Op.load 34 (Operand.tmp 52), type := 34, pos := "law.go:44", after := #[{ on := 1, ground := Ground.data }], guard := none }) (v := _) rfl (by kernel_rfl) (by kernel_rfl) (by kernel_rfl) (fun _ _ _ h => h) (yieldsIf_load_mid (by rfl) _ _ rfl V 1 rfl (nums .u8 o.A) _ (fun _ h => range_far2 h RA.out hVo.out) unH rfl hiA.out) hHeld ?_
            (try simp only [Act.put, List.setIfInBounds_toArray, List.set_cons_zero, List.set_cons_succ])
            refine wpAnyH_take (i := 3) (oi := { dst := some 54, op := Op.fieldAddr 36 (Operand.tmp 8) 2, type := 0, pos := "law.go:44", after := #[], guard := none }) (v := ?vc3) rfl (by kernel_rfl) (by kernel_rfl) (by kernel_rfl) (fun _ _ _ h => h) (Or.inl ⟨by rfl, ?hyc3⟩) hHeld ?_
            case hyc3 => (intro w hSw; (try dsimp only at hSw); go_simp; (try with_reducible rfl))
            (try simp only [Act.put, List.setIfInBounds_toArray, List.set_cons_zero, List.set_cons_succ])
            refine' wpAnyH_take (i := 4) (oi := { dst := some 55, op := Op.load 34 (Operand.tmp 54), type := 34, pos := "law.go:44", after := #[{ on := 3, ground := Ground.data }], guard := none }) (v := _) rfl (by kernel_rfl) (by kernel_rfl) (by kernel_rfl) (fun _ _ _ h => h) (yieldsIf_load_mid (by rfl) _ _ rfl V 33 rfl (nums .u8 o.B) _ (fun _ h => range_far2 h RB.out hVo.out) unH rfl hiB.out) hHeld ?_
            (try simp only [Act.put, List.setIfInBounds_toArray, List.set_cons_zero, List.set_cons_succ])
            refine' wpAnyH_take (i := 6) (oi := { dst := some 57, op := Op.load 33 (Operand.tmp 9), type := 33, pos := "law.go:44", after := #[], guard := none }) (v := _) rfl (by kernel_rfl) (by kernel_rfl) (by kernel_rfl) (fun _ _ _ h => h) (yieldsIf_load_mid (by rfl) _ _ rfl X9 0 rfl (nums .u8 (tokD o.A o.B)) _ (fun _ h => range_far2 h R9.out h9o.out) un32 rfl hi9.out) hHeld ?_
            (try simp only [Act.put, List.setIfInBounds_toArray, List.set_cons_zero, List.set_cons_succ])
            refine wpAnyH_ready (rs := [5]) (by kernel_rfl) (by simp) ?_
            refine AllReadyH.cons (o := { dst := some 56, op := Op.call { callee := Callee.value (Operand.func 11), args := #[Operand.tmp 51, Operand.tmp 53, Operand.tmp 55], argTypes := #[24, 34, 34] }, type := 34, pos := "law.go:44", after := #[{ on := 0, ground := Ground.data }, { on := 2, ground := Ground.data }, { on := 4, ground := Ground.data }], guard := none }) rfl (fun K hK => ?_) ?_
            go_simp; refine (allow_walk o.A o.B hok'.out.1 hok'.out.2.1 ob mb n M _ (HOy.out.below ((Below.refl _ _).drew)) (by omega) (HTy.out.below ((Below.refl _ _).drew))).mono ?_; rintro e wq ⟨rfl, hoq, fq⟩; have HOQ := hid hoq; have FQ := hid fq; clear hoq fq
            refine hK.out _ _ (hHeld.trans FQ.out) (fun hHeld => ?_)
            clear hK K
            (try simp only [List.setIfInBounds_toArray, List.set_cons_zero, List.set_cons_succ])
            refine wpAnyH_take (i := 7) (oi := { dst := some 58, op := Op.binOp BinOp.neq 34 (Operand.tmp 56) (Operand.tmp 57) 34, type := 4, pos := "law.go:44", after := #[{ on := 5, ground := Ground.data }, { on := 6, ground := Ground.data }], guard := none }) (v := ?vc4) rfl (by kernel_rfl) (by kernel_rfl) (by kernel_rfl) (fun _ _ _ h => h) (Or.inl ⟨by rfl, ?hyc4⟩) hHeld ?_
            case hyc4 => (intro w hSw; (try dsimp only at hSw); go_simp; (try with_reducible rfl))
            (try simp only [Act.put, List.setIfInBounds_toArray, List.set_cons_zero, List.set_cons_succ])
            refine wpAnyH_take (i := 8) (oi := { dst := some 59, op := Op.move (Operand.tmp 58), type := 4, pos := "law.go:44", after := #[{ on := 7, ground := Ground.data }, { on := 5, ground := Ground.chain }], guard := none }) (v := ?vc5) rfl (by kernel_rfl) (by kernel_rfl) (by kernel_rfl) (fun _ _ _ h => h) (Or.inl ⟨by rfl, ?hyc5⟩) hHeld ?_
            case hyc5 => (intro w hSw; (try dsimp only at hSw); go_simp; (try with_reducible rfl))
            (try simp only [Act.put, List.setIfInBounds_toArray, List.set_cons_zero, List.set_cons_succ])
            refine wpAnyH_take (i := 9) (oi := { dst := some 60, op := Op.fieldAddr 36 (Operand.tmp 8) 1, type := 0, pos := "law.go:44", after := #[{ on := 8, ground := Ground.guard }], guard := some (8, false) }) (v := ?vc6) rfl (by kernel_rfl) (by kernel_rfl) (by kernel_rfl) (fun _ _ _ h => h) (Or.inl ⟨by rfl, ?hyc6⟩) hHeld ?_
            case hyc6 => (intro w hSw; (try dsimp only at hSw); go_simp; (try with_reducible rfl))
            (try simp only [Act.put, List.setIfInBounds_toArray, List.set_cons_zero, List.set_cons_succ])
            refine' wpAnyH_take (i := 10) (oi := { dst := some 61, op := Op.load 34 (Operand.tmp 60), type := 34, pos := "law.go:44", after := #[{ on := 9, ground := Ground.data }, { on := 8, ground := Ground.guard }], guard := some (8, false) }) (v := _) rfl (by kernel_rfl) (by kernel_rfl) (by kernel_rfl) (fun _ _ _ h => h) (yieldsIf_load_mid (by rfl) _ _ rfl V 1 rfl (nums .u8 o.A) _ (fun _ h => range_far2 h RA.out hVo.out) unH rfl hiA.out) hHeld ?_
            (try simp only [Act.put, List.setIfInBounds_toArray, List.set_cons_zero, List.set_cons_succ])
            refine' wpAnyH_take (i := 12) (oi := { dst := some 63, op := Op.load 33 (Operand.tmp 10), type := 33, pos := "law.go:44", after := #[{ on := 8, ground := Ground.guard }], guard := some (8, false) }) (v := _) rfl (by kernel_rfl) (by kernel_rfl) (by kernel_rfl) (fun _ _ _ h => h) (yieldsIf_load_mid (by rfl) _ _ rfl X10 0 rfl (nums .u8 (ownD o.A)) _ (fun _ h => range_far2 h R10.out h10o.out) un32 rfl hi10.out) hHeld ?_
            (try simp only [Act.put, List.setIfInBounds_toArray, List.set_cons_zero, List.set_cons_succ])
            refine wpAnyH_ready (rs := [11]) (by kernel_rfl) (by simp) ?_
            refine AllReadyH.cons (o := { dst := some 62, op := Op.call { callee := Callee.value (Operand.func 12), args := #[Operand.tmp 61], argTypes := #[34] }, type := 34, pos := "law.go:44", after := #[{ on := 10, ground := Ground.data }, { on := 8, ground := Ground.chain }, { on := 8, ground := Ground.guard }], guard := some (8, false) }) rfl (fun K hK => ?_) ?_
            go_simp; refine (owner_walk o.A hok'.out.1.1 hok'.out.1.2 _ (tabs_far2 HTy.out hHeld hTB.out hlo1 hlo2)).mono ?_; rintro e wo ⟨rfl, bo⟩; have BO := hid bo; clear bo
            refine hK.out _ _ (hHeld.trans (Far.l2 mb (Far.of BO.out))) (fun hHeld => ?_)
            clear hK K
            (try simp only [List.setIfInBounds_toArray, List.set_cons_zero, List.set_cons_succ])
            refine wpAnyH_take (i := 13) (oi := { dst := some 64, op := Op.binOp BinOp.neq 34 (Operand.tmp 62) (Operand.tmp 63) 34, type := 4, pos := "law.go:44", after := #[{ on := 11, ground := Ground.data }, { on := 12, ground := Ground.data }, { on := 8, ground := Ground.guard }], guard := some (8, false) }) (v := ?vc7) rfl (by kernel_rfl) (by kernel_rfl) (by kernel_rfl) (fun _ _ _ h => h) (Or.inl ⟨by rfl, ?hyc7⟩) hHeld ?_
            case hyc7 => (intro w hSw; (try dsimp only at hSw); go_simp; (try with_reducible rfl))
            (try simp only [Act.put, List.setIfInBounds_toArray, List.set_cons_zero, List.set_cons_succ])
            refine wpAnyH_take (i := 14) (oi := { dst := some 65, op := Op.pick (Operand.tmp 59) (Operand.const (Value.bool true)) (Operand.tmp 64), type := 4, pos := "law.go:44", after := #[{ on := 8, ground := Ground.data }, { on := 13, ground := Ground.data }], guard := none }) (v := ?vc8) rfl (by kernel_rfl) (by kernel_rfl) (by kernel_rfl) (fun _ _ _ h => h) (Or.inl ⟨by rfl, ?hyc8⟩) hHeld ?_
            case hyc8 => (intro w hSw; (try dsimp only at hSw); go_simp; (try with_reducible rfl))
            (try simp only [Act.put, List.setIfInBounds_toArray, List.set_cons_zero, List.set_cons_succ])
            refine wpAnyH_done (by kernel_rfl) ?_ _
            rotate_left
            exact AllReadyH.nil
            exact AllReadyH.nil
            all_goals
              have OF0 := hid (HOQ.out.below BO.out)
              have GV0 := hid (Ry.out.giv.heap (hHeld.block gb Ry.out.giv.lt Ry.out.ne.1 Ry.out.ne.2.1))
              have TB0 := hid (Far2.heap hHeld Ry.out.tab Ry.out.ne.2.2.2.2.2.1 Ry.out.ne.2.2.2.2.2.2.1)
              have LS0 := hid (Far2.heap hHeld Ry.out.las Ry.out.ne.2.2.1 Ry.out.ne.2.2.2.1)
              have V80 := hid (Far2.heap hHeld V8y.out hVo.out.1 hVo.out.2)
              have G90 := hid (Far2.heap hHeld G9y.out h9o.out.1 h9o.out.2)
              have G100 := hid (Far2.heap hHeld G10.out h10o.out.1 h10o.out.2)
              have B0 := hid (Ry.out.bel.trans (hHeld.below hlo1 hlo2 Ry.out.bel.size))
              clear hHeld e1 e2 e3 e4 HOQ BO FQ RA RB R9 R10 HOy HTy V8y G9y G10
              have hval : ∃ (CS : List Value) (kb : Bool), (valE M (tokD o.A o.B)).getD (.agg zE) = .agg CS.toArray ∧ (valE M (tokD o.A o.B)).isSome = kb ∧ kb = (M (tokD o.A o.B)).isSome ∧ CS.length = 64 ∧ ∀ v ∈ CS, v.oneCell' = true := by
                unfold valE
                cases hM : M (tokD o.A o.B) with
                | none => exact ⟨nums .u8 (List.replicate 64 0), false, rfl, rfl, rfl, by simp, nums_oneCell _ _⟩
                | some en =>
                  have := Ry.out.off.ok _ _ hM
                  exact ⟨nums .u8 (en.1 ++ en.2), true, rfl, rfl, rfl, by simp [this.1.1, this.2.1], nums_oneCell _ _⟩
              obtain ⟨CS, kb, hv1, hv2, hv3, hv4, hv5⟩ := hval
              have rX9 := row_range G90.out
              have hiCS := hid (show (Tryd.prog.info? 41).map (·.size) = some CS.toArray.size by rw [List.size_toArray, hv4]; kernel_rfl)
              have hzCS : ∀ z : Array Value, z.size = 64 → z.size = CS.toArray.size := fun z hz => by rw [hz, List.size_toArray, hv4]
              have ZG := zeroG
              have hzE : zE.size = 64 := rfl
              have LKW := fun (ops : Array Oper) (rest : List Oper) (o' : Oper) (aa : Act) (Q : Exit → Act → World → Prop) (hg : o'.guard = none) (m x : Operand) (hop : o'.op = Op.lookup 32 m x true) (hm : aa.eval m = .map (some gb)) (hx : aa.eval x = hv (tokD o.A o.B)) hK => wpList_look (ops := ops) (rest := rest) (a := aa) (Q := Q) hg m x _ true hop unG (zeroG _) GV0.out hm (tokD o.A o.B) (tokD_ok o.A o.B) hx hK
              rw [hv1, hv2] at LKW
              simp only [if_true] at LKW
              have hKB := hid hv3
              have hVS := hid hv2
              clear hv1 hv2 hv3 hv4
              generalize zE = ZE at *
              go_upto_region 17 with (first | (refine wpList_load_mid rfl _ _ rfl X9 0 rfl (nums .u8 (tokD o.A o.B)) _ rX9 un32 rfl hi9.out ?_) | (refine LKW _ _ _ _ _ rfl _ _ rfl rfl rfl ?_) | (refine wpList_store_row rfl _ _ _ rfl wo.heap.size CS.toArray rfl rfl _ _ (heap_alloc_new wo _) hiCS.out (hzCS _ hzE) (all_oneCell_toArray hv5) ?_))
              have LA := fun z => laid wo z CS.toArray 41
              generalize hWW : World.setRow _ _ _ = wp
              replace LA := hid (hWW ▸ LA _)
              have OFp := hid (OF0.out.below LA.out.2)
              have GVp := hid (GV0.out.below LA.out.2)
              have TBp := hid (heap_keep TB0.out LA.out.2)
              have LSp := hid (heap_keep LS0.out LA.out.2)
              have V8f := hid (heap_keep V80.out LA.out.2)
              have G9f := hid (heap_keep G90.out LA.out.2)
              have G10f := hid (heap_keep G100.out LA.out.2)
              have Bp := hid (bstep B0.out LA.out.2)
              clear hWW LA OF0 GV0 TB0 LS0 V80 G90 G100 B0 rX9 hiCS hzCS ZG hzE LKW hv5
              have hVgb := hid (show V ≠ gb by omega)
              have h9gb := hid (show X9 ≠ gb by omega)
              have h10gb := hid (show X10 ≠ gb by omega)
              cases kb
              · have hEM := hid (show allM M o.A o.B = updE M (tokD o.A o.B) (ownD o.A, o.B) by unfold allM; rw [if_neg (by rw [← hKB.out]; decide)])
                have hEN := hid (show allN M n o.A o.B = n + 1 by unfold allN; rw [if_neg (by rw [← hKB.out]; decide)])
                have rA9 := row_range G9f.out
                have rA10 := row_range G10f.out
                have rB := show wp.rangeAt V 33 (nums .u8 o.B) from by have := gen_range (row_range V8f.out) 33 32; rwa [qB] at this
                have hbA := hid (built_arr2 (ownD o.A) o.B (ownD_ok _).1 hok'.out.2.1.1)
                have hnM : n < maxLen := by unfold maxLen; omega
                go_wp2_with (first | (refine wpList_load_mid rfl _ _ rfl X10 0 rfl (nums .u8 (ownD o.A)) _ rA10 un32 rfl hi10.out ?_) | (refine wpList_load_mid rfl _ _ rfl X9 0 rfl (nums .u8 (tokD o.A o.B)) _ rA9 un32 rfl hi9.out ?_) | (refine wpList_load_mid rfl _ _ rfl V 33 rfl (nums .u8 o.B) _ rB unH rfl hiB.out ?_) | (refine wpList_build2 rfl _ _ _ rfl hbA.out rfl rfl ?_) | (refine wpList_putN rfl _ _ _ _ rfl unG GVp.out hnM rfl (tokD o.A o.B) (tokD_ok o.A o.B) rfl rfl hVS.out ?_))
                intro w9 m9 f9
                have GV := hid (show MapIs E32 w9 gb (valE (allM M o.A o.B)) (allN M n o.A o.B) by
                  rw [hEM.out, hEN.out, ← valE_upd]
                  exact m9)
                have OF := hid (OFp.out.far f9 (Ne.symm Ry.out.ne.1) (Ne.symm Ry.out.ne.2.1))
                have TB := hid (heap_far TBp.out f9 Ry.out.ne.2.2.2.2.2.2.2.1)
                have LS := hid (heap_far LSp.out f9 Ry.out.ne.2.2.2.2.1)
                have V8f := hid (heap_far V8f.out f9 hVgb.out)
                have G9f := hid (heap_far G9f.out f9 h9gb.out)
                have G10f := hid (heap_far G10f.out f9 h10gb.out)
                have Bf := hid (Bp.out.trans (f9.below Ry.out.lo.2.2.1 Bp.out.size))
                clear m9 f9 rA9 rA10 rB OFp GVp TBp LSp Bp
                have rA9 := row_range G9f.out
                have rA10 := row_range G10f.out
                have rB := show w9.rangeAt V 33 (nums .u8 o.B) from by have := gen_range (row_range V8f.out) 33 32; rwa [qB] at this
                have hlo := hid (show lst.cells.toArray.size = (OpX.cells ⟨false, ownD o.A, o.B, tokD o.A o.B, false⟩).toArray.size by rw [List.size_toArray, List.size_toArray, OpX.len Ry.out.lok, OpX.len (o := ⟨false, ownD o.A, o.B, tokD o.A o.B, false⟩) ⟨ownD_ok _, hok'.out.2.1, tokD_ok _ _⟩])
                have hok9 := hid (show OpX.ok ⟨false, ownD o.A, o.B, tokD o.A o.B, false⟩ from ⟨ownD_ok _, hok'.out.2.1, tokD_ok _ _⟩)
                have hbo := hid (built_op (ownD o.A) o.B (tokD o.A o.B) (ownD_ok _).1 hok'.out.2.1.1 (tokD_ok _ _).1)
                go_upto_region 26 with (first | (refine wpList_load_mid rfl _ _ rfl X10 0 rfl (nums .u8 (ownD o.A)) _ rA10 un32 rfl hi10.out ?_) | (refine wpList_load_mid rfl _ _ rfl X9 0 rfl (nums .u8 (tokD o.A o.B)) _ rA9 un32 rfl hi9.out ?_) | (refine wpList_load_mid rfl _ _ rfl V 33 rfl (nums .u8 o.B) _ rB unH rfl hiB.out ?_) | (refine wpList_buildN3 rfl _ _ _ _ rfl hbo.out rfl rfl rfl ?_) | (refine wpList_store_row rfl _ _ _ rfl L6 (OpX.cells ⟨false, ownD o.A, o.B, tokD o.A o.B, false⟩).toArray rfl rfl _ _ LS.out (infoOpA hok9.out) hlo.out (all_oneCell_toArray (OpX.one _)) ?_))
                have f6 := far_row w9 L6 (OpX.cells ⟨false, ownD o.A, o.B, tokD o.A o.B, false⟩).toArray
                have LS6 := setRow_heap w9 L6 _ (OpX.cells ⟨false, ownD o.A, o.B, tokD o.A o.B, false⟩).toArray _ _ LS.out
                have RN := hid (show RunR w TT ob mb gb L6 (allM M o.A o.B) (allN M n o.A o.B) ⟨false, ownD o.A, o.B, tokD o.A o.B, false⟩ _ from ⟨OF.out.far f6 (Ne.symm Ry.out.ne.2.2.1) (Ne.symm Ry.out.ne.2.2.2.1), GV.out.far f6 (Ne.symm Ry.out.ne.2.2.2.2.1), heap_far TB.out f6 Ry.out.ne.2.2.2.2.2.2.2.2, LS6, hok9.out, Bf.out.trans (f6.below Ry.out.lo.2.2.2 Bf.out.size), Ry.out.lo, Ry.out.ne⟩)
                clear f6 LS6 rA9 rA10 rB OF GV TB LS V8f G9f G10f Bf
                generalize World.setRow w9 L6 _ = wk at *
                obtain ⟨nn, hnn⟩ : ∃ nn, nn = allN M n o.A o.B := ⟨_, rfl⟩
                obtain ⟨MM, hMM⟩ : ∃ MM, MM = allM M o.A o.B := ⟨_, rfl⟩
                rw [← hnn, ← hMM] at RN
                have hnn' : nn ≤ i + 1 := by rw [hnn]; first | omega | (unfold allN; split <;> omega)
                clear hnn hMM
                go_wp2_with fail
                refine (count_walk ob mb nn MM _ RN.out.off).mono ?_
                rintro e wl ⟨rfl, rfl⟩
                have hlen := RN.out.giv.len unG 3
                go_wp2
                go_roundw
                case rel => exact ⟨i + 1, MM, nn, _, by omega, by omega, by omega, by go_num, RN.out⟩
                case measure => simp [intOf]; omega
              · have hEM := hid (show allM M o.A o.B = M by unfold allM; rw [if_pos hKB.out.symm])
                have hEN := hid (show allN M n o.A o.B = n by unfold allN; rw [if_pos hKB.out.symm])
                have GV := hid (show MapIs E32 wp gb (valE (allM M o.A o.B)) (allN M n o.A o.B) by rw [hEM.out, hEN.out]; exact GVp.out)
                have OF := OFp
                have TB := TBp
                have LS := LSp
                have Bf := Bp
                clear OFp GVp TBp LSp Bp
                have rA9 := row_range G9f.out
                have rA10 := row_range G10f.out
                have rB := show wp.rangeAt V 33 (nums .u8 o.B) from by have := gen_range (row_range V8f.out) 33 32; rwa [qB] at this
                have hlo := hid (show lst.cells.toArray.size = (OpX.cells ⟨false, ownD o.A, o.B, tokD o.A o.B, false⟩).toArray.size by rw [List.size_toArray, List.size_toArray, OpX.len Ry.out.lok, OpX.len (o := ⟨false, ownD o.A, o.B, tokD o.A o.B, false⟩) ⟨ownD_ok _, hok'.out.2.1, tokD_ok _ _⟩])
                have hok9 := hid (show OpX.ok ⟨false, ownD o.A, o.B, tokD o.A o.B, false⟩ from ⟨ownD_ok _, hok'.out.2.1, tokD_ok _ _⟩)
                have hbo := hid (built_op (ownD o.A) o.B (tokD o.A o.B) (ownD_ok _).1 hok'.out.2.1.1 (tokD_ok _ _).1)
                go_upto_region 26 with (first | (refine wpList_load_mid rfl _ _ rfl X10 0 rfl (nums .u8 (ownD o.A)) _ rA10 un32 rfl hi10.out ?_) | (refine wpList_load_mid rfl _ _ rfl X9 0 rfl (nums .u8 (tokD o.A o.B)) _ rA9 un32 rfl hi9.out ?_) | (refine wpList_load_mid rfl _ _ rfl V 33 rfl (nums .u8 o.B) _ rB unH rfl hiB.out ?_) | (refine wpList_buildN3 rfl _ _ _ _ rfl hbo.out rfl rfl rfl ?_) | (refine wpList_store_row rfl _ _ _ rfl L6 (OpX.cells ⟨false, ownD o.A, o.B, tokD o.A o.B, false⟩).toArray rfl rfl _ _ LS.out (infoOpA hok9.out) hlo.out (all_oneCell_toArray (OpX.one _)) ?_))
                have f6 := far_row wp L6 (OpX.cells ⟨false, ownD o.A, o.B, tokD o.A o.B, false⟩).toArray
                have LS6 := setRow_heap wp L6 _ (OpX.cells ⟨false, ownD o.A, o.B, tokD o.A o.B, false⟩).toArray _ _ LS.out
                have RN := hid (show RunR w TT ob mb gb L6 (allM M o.A o.B) (allN M n o.A o.B) ⟨false, ownD o.A, o.B, tokD o.A o.B, false⟩ _ from ⟨OF.out.far f6 (Ne.symm Ry.out.ne.2.2.1) (Ne.symm Ry.out.ne.2.2.2.1), GV.out.far f6 (Ne.symm Ry.out.ne.2.2.2.2.1), heap_far TB.out f6 Ry.out.ne.2.2.2.2.2.2.2.2, LS6, hok9.out, Bf.out.trans (f6.below Ry.out.lo.2.2.2 Bf.out.size), Ry.out.lo, Ry.out.ne⟩)
                clear f6 LS6 rA9 rA10 rB OF GV TB LS V8f G9f G10f Bf
                generalize World.setRow wp L6 _ = wk at *
                obtain ⟨nn, hnn⟩ : ∃ nn, nn = allN M n o.A o.B := ⟨_, rfl⟩
                obtain ⟨MM, hMM⟩ : ∃ MM, MM = allM M o.A o.B := ⟨_, rfl⟩
                rw [← hnn, ← hMM] at RN
                have hnn' : nn ≤ i + 1 := by rw [hnn]; first | omega | (unfold allN; split <;> omega)
                clear hnn hMM
                go_wp2_with fail
                refine (count_walk ob mb nn MM _ RN.out.off).mono ?_
                rintro e wl ⟨rfl, rfl⟩
                have hlen := RN.out.giv.len unG 3
                go_wp2
                go_roundw
                case rel => exact ⟨i + 1, MM, nn, _, by omega, by omega, by omega, by go_num, RN.out⟩
                case measure => simp [intOf]; omega
          have MID2 := hid MID2
          refine wp_region_held_drew (S := fun w' => Below wz.heap.size wz w') (by kernel_rfl) ((Below.refl _ _).drew) (fun hHeld => ?_)
          try simp only [List.size_toArray, List.length_cons, List.length_nil, Nat.reduceAdd, Array.replicate_succ, Array.replicate_zero, List.push_toArray, List.nil_append, List.cons_append]
          refine' wpAnyH_take (i := 0) (oi := { dst := some 46, op := Op.load 30 (Operand.tmp 4), type := 30, pos := "law.go:43", after := #[], guard := none }) (v := _) rfl (by kernel_rfl) (by kernel_rfl) (by kernel_rfl) (fun _ _ _ h => h) (yieldsIf_load_mid (by rfl) _ _ rfl TT 0 rfl (nums .u32 (H0 ++ K0)) _ (fun _ h => range_keep h RTz.out) Tryd.underlying30 rfl hiT.out) hHeld ?_
          (try simp only [Act.put, List.setIfInBounds_toArray, List.set_cons_zero, List.set_cons_succ])
          refine wpAnyH_take (i := 1) (oi := { dst := some 47, op := Op.fieldAddr 36 (Operand.tmp 8) 1, type := 0, pos := "law.go:43", after := #[], guard := none }) (v := ?vb1) rfl (by kernel_rfl) (by kernel_rfl) (by kernel_rfl) (fun _ _ _ h => h) (Or.inl ⟨by rfl, ?hyb1⟩) hHeld ?_
          case hyb1 => (intro w hSw; (try dsimp only at hSw); go_simp; (try with_reducible rfl))
          (try simp only [Act.put, List.setIfInBounds_toArray, List.set_cons_zero, List.set_cons_succ])
          refine wpAnyH_take (i := 2) (oi := { dst := some 48, op := Op.slice 34 (Operand.tmp 47) none none none, type := 38, pos := "law.go:43", after := #[{ on := 1, ground := Ground.data }], guard := none }) (v := ?vb2) rfl (by kernel_rfl) (by kernel_rfl) (by kernel_rfl) (fun _ _ _ h => h) (Or.inl ⟨by rfl, ?hyb2⟩) hHeld ?_
          case hyb2 => (intro w hSw; (try dsimp only at hSw); go_simp; (try with_reducible rfl))
          (try simp only [Act.put, List.setIfInBounds_toArray, List.set_cons_zero, List.set_cons_succ])
          refine wpAnyH_ready (rs := [3, 5]) (by kernel_rfl) (by simp) ?_
          refine AllReadyH.cons (o := { dst := some 49, op := Op.buildSlice 59 1 #[(0, Operand.tmp 48)], type := 59, pos := "law.go:43", after := #[{ on := 2, ground := Ground.data }], guard := none }) rfl (fun K hK => ?_) ?_
          go_simp; (first | refine newZ ?_ | refine newZd ?_); intro wp hp bp; have HP := hid hp; have BP := hid bp; have pl := (Array.getElem?_eq_some_iff.1 hp).1; clear hp bp
          refine hK.out _ _ (by first | exact hHeld.trans (BP.out.mono hHeld.size) | exact BP.out) (fun hHeld => ?_)
          clear hK K
          (try simp only [List.setIfInBounds_toArray, List.set_cons_zero, List.set_cons_succ])
          refine wpAnyH_ready (rs := [4, 5]) (by kernel_rfl) (by simp) ?_
          refine AllReadyH.cons (o := { dst := some 50, op := Op.call { callee := Callee.value (Operand.func 10), args := #[Operand.tmp 46, Operand.const (Value.string { data := #[109, 111, 110, 101, 121, 101, 114, 47, 111, 119, 110, 101, 114] }), Operand.tmp 49], argTypes := #[30, 9, 59] }, type := 33, pos := "law.go:43", after := #[{ on := 0, ground := Ground.data }, { on := 3, ground := Ground.data }], guard := none }) rfl (fun K hK => ?_) ?_
          go_simp; refine (rtagO_walk _ (some ⟨V, 1, none⟩) o.A hok'.out.1 _ (by first | exact row1 HP.out | exact row1 (heap_keep HP.out BA.out)) (hSAz.out.below hHeld)).mono ?_; rintro e wt ⟨rfl, bt⟩; have BT := hid bt; clear bt
          refine hK.out _ _ (by first | exact hHeld.trans (BT.out.mono hHeld.size) | exact BT.out) (fun hHeld => ?_)
          clear hK K
          (try simp only [List.setIfInBounds_toArray, List.set_cons_zero, List.set_cons_succ])
          refine wpAnyH_ready (rs := [5]) (by kernel_rfl) (by simp) ?_
          refine AllReadyH.cons (o := { dst := some 10, op := Op.alloc 33, type := 0, pos := "law.go:43", after := #[], guard := none }) rfl (fun K hK => ?_) ?_
          have hs7 := hHeld.size; go_simp; (first | refine newZ ?_ | refine newZd ?_); intro wa ha ba; have HA := hid ha; have BA := hid ba; have al := (Array.getElem?_eq_some_iff.1 ha).1; clear ha ba
          refine hK.out _ _ (by first | exact hHeld.trans (BA.out.mono hHeld.size) | exact BA.out) (fun hHeld => ?_)
          clear hK K
          (try simp only [List.setIfInBounds_toArray, List.set_cons_zero, List.set_cons_succ])
          refine wpAnyH_ready (rs := [6]) (by kernel_rfl) (by simp) ?_
          refine AllReadyH.cons (o := { dst := none, op := Op.store 33 (Operand.tmp 10) (Operand.tmp 50), type := 0, pos := "law.go:43", after := #[{ on := 5, ground := Ground.data }, { on := 4, ground := Ground.data }, { on := 4, ground := Ground.chain }, { on := 0, ground := Ground.phase }, { on := 1, ground := Ground.phase }, { on := 2, ground := Ground.phase }, { on := 3, ground := Ground.phase }, { on := 4, ground := Ground.phase }, { on := 5, ground := Ground.phase }], guard := none }) rfl (fun K hK => ?_) ?_
          rw [if_pos (by rfl)]; unfold hv; refine wp_store_row _ _ _ rfl _ (nums .u8 (ownD o.A)).toArray rfl rfl _ _ (by first | exact HA.out | exact heap_keep HA.out BP.out | exact heap_keep HA.out BT.out | exact heap_keep (heap_keep HA.out BP.out) BT.out) (infoO' (ownD_ok _).1) (sizeO' (ownD_ok _).1 _ rfl) (one32 _) ?_
          refine hK.out _ _ (below_setRow hHeld (by first | exact hHeld.size | omega) _) (fun hHeld => ?_)
          clear hK K
          (try simp only [List.setIfInBounds_toArray, List.set_cons_zero, List.set_cons_succ])
          refine wpAnyH_done (by kernel_rfl) ?_ _
          rotate_left
          exact AllReadyH.nil
          exact AllReadyH.nil
          refine AllReadyH.cons (o := { dst := some 10, op := Op.alloc 33, type := 0, pos := "law.go:43", after := #[], guard := none }) rfl (fun K hK => ?_) ?_
          have hs7 := hHeld.size; go_simp; (first | refine newZ ?_ | refine newZd ?_); intro wa ha ba; have HA := hid ha; have BA := hid ba; have al := (Array.getElem?_eq_some_iff.1 ha).1; clear ha ba
          refine hK.out _ _ (by first | exact hHeld.trans (BA.out.mono hHeld.size) | exact BA.out) (fun hHeld => ?_)
          clear hK K
          (try simp only [List.setIfInBounds_toArray, List.set_cons_zero, List.set_cons_succ])
          refine wpAnyH_ready (rs := [4]) (by kernel_rfl) (by simp) ?_
          refine AllReadyH.cons (o := { dst := some 50, op := Op.call { callee := Callee.value (Operand.func 10), args := #[Operand.tmp 46, Operand.const (Value.string { data := #[109, 111, 110, 101, 121, 101, 114, 47, 111, 119, 110, 101, 114] }), Operand.tmp 49], argTypes := #[30, 9, 59] }, type := 33, pos := "law.go:43", after := #[{ on := 0, ground := Ground.data }, { on := 3, ground := Ground.data }], guard := none }) rfl (fun K hK => ?_) ?_
          go_simp; refine (rtagO_walk _ (some ⟨V, 1, none⟩) o.A hok'.out.1 _ (by first | exact row1 HP.out | exact row1 (heap_keep HP.out BA.out)) (hSAz.out.below hHeld)).mono ?_; rintro e wt ⟨rfl, bt⟩; have BT := hid bt; clear bt
          refine hK.out _ _ (by first | exact hHeld.trans (BT.out.mono hHeld.size) | exact BT.out) (fun hHeld => ?_)
          clear hK K
          (try simp only [List.setIfInBounds_toArray, List.set_cons_zero, List.set_cons_succ])
          refine wpAnyH_ready (rs := [6]) (by kernel_rfl) (by simp) ?_
          refine AllReadyH.cons (o := { dst := none, op := Op.store 33 (Operand.tmp 10) (Operand.tmp 50), type := 0, pos := "law.go:43", after := #[{ on := 5, ground := Ground.data }, { on := 4, ground := Ground.data }, { on := 4, ground := Ground.chain }, { on := 0, ground := Ground.phase }, { on := 1, ground := Ground.phase }, { on := 2, ground := Ground.phase }, { on := 3, ground := Ground.phase }, { on := 4, ground := Ground.phase }, { on := 5, ground := Ground.phase }], guard := none }) rfl (fun K hK => ?_) ?_
          rw [if_pos (by rfl)]; unfold hv; refine wp_store_row _ _ _ rfl _ (nums .u8 (ownD o.A)).toArray rfl rfl _ _ (by first | exact HA.out | exact heap_keep HA.out BP.out | exact heap_keep HA.out BT.out | exact heap_keep (heap_keep HA.out BP.out) BT.out) (infoO' (ownD_ok _).1) (sizeO' (ownD_ok _).1 _ rfl) (one32 _) ?_
          refine hK.out _ _ (below_setRow hHeld (by first | exact hHeld.size | omega) _) (fun hHeld => ?_)
          clear hK K
          (try simp only [List.setIfInBounds_toArray, List.set_cons_zero, List.set_cons_succ])
          refine wpAnyH_done (by kernel_rfl) ?_ _
          rotate_left
          exact AllReadyH.nil
          exact AllReadyH.nil
          exact AllReadyH.nil
          refine AllReadyH.cons (o := { dst := some 10, op := Op.alloc 33, type := 0, pos := "law.go:43", after := #[], guard := none }) rfl (fun K hK => ?_) ?_
          have hs7 := hHeld.size; go_simp; (first | refine newZ ?_ | refine newZd ?_); intro wa ha ba; have HA := hid ha; have BA := hid ba; have al := (Array.getElem?_eq_some_iff.1 ha).1; clear ha ba
          refine hK.out _ _ (by first | exact hHeld.trans (BA.out.mono hHeld.size) | exact BA.out) (fun hHeld => ?_)
          clear hK K
          (try simp only [List.setIfInBounds_toArray, List.set_cons_zero, List.set_cons_succ])
          refine wpAnyH_ready (rs := [3]) (by kernel_rfl) (by simp) ?_
          refine AllReadyH.cons (o := { dst := some 49, op := Op.buildSlice 59 1 #[(0, Operand.tmp 48)], type := 59, pos := "law.go:43", after := #[{ on := 2, ground := Ground.data }], guard := none }) rfl (fun K hK => ?_) ?_
          go_simp; (first | refine newZ ?_ | refine newZd ?_); intro wp hp bp; have HP := hid hp; have BP := hid bp; have pl := (Array.getElem?_eq_some_iff.1 hp).1; clear hp bp
          refine hK.out _ _ (by first | exact hHeld.trans (BP.out.mono hHeld.size) | exact BP.out) (fun hHeld => ?_)
          clear hK K
          (try simp only [List.setIfInBounds_toArray, List.set_cons_zero, List.set_cons_succ])
          refine wpAnyH_ready (rs := [4]) (by kernel_rfl) (by simp) ?_
          refine AllReadyH.cons (o := { dst := some 50, op := Op.call { callee := Callee.value (Operand.func 10), args := #[Operand.tmp 46, Operand.const (Value.string { data := #[109, 111, 110, 101, 121, 101, 114, 47, 111, 119, 110, 101, 114] }), Operand.tmp 49], argTypes := #[30, 9, 59] }, type := 33, pos := "law.go:43", after := #[{ on := 0, ground := Ground.data }, { on := 3, ground := Ground.data }], guard := none }) rfl (fun K hK => ?_) ?_
          go_simp; refine (rtagO_walk _ (some ⟨V, 1, none⟩) o.A hok'.out.1 _ (by first | exact row1 HP.out | exact row1 (heap_keep HP.out BA.out)) (hSAz.out.below hHeld)).mono ?_; rintro e wt ⟨rfl, bt⟩; have BT := hid bt; clear bt
          refine hK.out _ _ (by first | exact hHeld.trans (BT.out.mono hHeld.size) | exact BT.out) (fun hHeld => ?_)
          clear hK K
          (try simp only [List.setIfInBounds_toArray, List.set_cons_zero, List.set_cons_succ])
          refine wpAnyH_ready (rs := [6]) (by kernel_rfl) (by simp) ?_
          refine AllReadyH.cons (o := { dst := none, op := Op.store 33 (Operand.tmp 10) (Operand.tmp 50), type := 0, pos := "law.go:43", after := #[{ on := 5, ground := Ground.data }, { on := 4, ground := Ground.data }, { on := 4, ground := Ground.chain }, { on := 0, ground := Ground.phase }, { on := 1, ground := Ground.phase }, { on := 2, ground := Ground.phase }, { on := 3, ground := Ground.phase }, { on := 4, ground := Ground.phase }, { on := 5, ground := Ground.phase }], guard := none }) rfl (fun K hK => ?_) ?_
          rw [if_pos (by rfl)]; unfold hv; refine wp_store_row _ _ _ rfl _ (nums .u8 (ownD o.A)).toArray rfl rfl _ _ (by first | exact HA.out | exact heap_keep HA.out BP.out | exact heap_keep HA.out BT.out | exact heap_keep (heap_keep HA.out BP.out) BT.out) (infoO' (ownD_ok _).1) (sizeO' (ownD_ok _).1 _ rfl) (one32 _) ?_
          refine hK.out _ _ (below_setRow hHeld (by first | exact hHeld.size | omega) _) (fun hHeld => ?_)
          clear hK K
          (try simp only [List.setIfInBounds_toArray, List.set_cons_zero, List.set_cons_succ])
          refine wpAnyH_done (by kernel_rfl) ?_ _
          rotate_left
          exact AllReadyH.nil
          exact AllReadyH.nil
          exact AllReadyH.nil
          exact AllReadyH.nil
          all_goals
            refine MID2.out _ _ _ _ _ _ _ ?_ (setRow_heap _ _ _ _ _ _ (by first | exact HA.out | exact heap_keep HA.out BP.out | exact heap_keep HA.out BT.out | exact heap_keep (heap_keep HA.out BP.out) BT.out)) hHeld
            have h1 := hHeld.size
            first | exact Nat.le_refl _ | omega
        have MID := hid MID
        clear c0 q0 q97 qA qB qT rV
        refine wp_region_held_drew (S := fun w' => Below wb.heap.size wb w') (by kernel_rfl) ((Below.refl _ _).drew) (fun hHeld => ?_)
        try simp only [List.size_toArray, List.length_cons, List.length_nil, Nat.reduceAdd, Array.replicate_succ, Array.replicate_zero, List.push_toArray, List.nil_append, List.cons_append]
        refine' wpAnyH_take (i := 0) (oi := { dst := some 39, op := Op.load 30 (Operand.tmp 4), type := 30, pos := "law.go:42", after := #[], guard := none }) (v := _) rfl (by kernel_rfl) (by kernel_rfl) (by kernel_rfl) (fun _ _ _ h => h) (yieldsIf_load_mid (by rfl) _ _ rfl TT 0 rfl (nums .u32 (H0 ++ K0)) _ (fun _ h => range_keep h RT.out) Tryd.underlying30 rfl hiT.out) hHeld ?_
        (try simp only [Act.put, List.setIfInBounds_toArray, List.set_cons_zero, List.set_cons_succ])
        refine wpAnyH_take (i := 1) (oi := { dst := some 40, op := Op.fieldAddr 36 (Operand.tmp 8) 1, type := 0, pos := "law.go:42", after := #[], guard := none }) (v := ?va1) rfl (by kernel_rfl) (by kernel_rfl) (by kernel_rfl) (fun _ _ _ h => h) (Or.inl ⟨by rfl, ?hya1⟩) hHeld ?_
        case hya1 => (intro w hSw; (try dsimp only at hSw); go_simp; (try with_reducible rfl))
        (try simp only [Act.put, List.setIfInBounds_toArray, List.set_cons_zero, List.set_cons_succ])
        refine wpAnyH_take (i := 2) (oi := { dst := some 41, op := Op.slice 34 (Operand.tmp 40) none none none, type := 38, pos := "law.go:42", after := #[{ on := 1, ground := Ground.data }], guard := none }) (v := ?va2) rfl (by kernel_rfl) (by kernel_rfl) (by kernel_rfl) (fun _ _ _ h => h) (Or.inl ⟨by rfl, ?hya2⟩) hHeld ?_
        case hya2 => (intro w hSw; (try dsimp only at hSw); go_simp; (try with_reducible rfl))
        (try simp only [Act.put, List.setIfInBounds_toArray, List.set_cons_zero, List.set_cons_succ])
        refine wpAnyH_take (i := 3) (oi := { dst := some 42, op := Op.fieldAddr 36 (Operand.tmp 8) 2, type := 0, pos := "law.go:42", after := #[], guard := none }) (v := ?va3) rfl (by kernel_rfl) (by kernel_rfl) (by kernel_rfl) (fun _ _ _ h => h) (Or.inl ⟨by rfl, ?hya3⟩) hHeld ?_
        case hya3 => (intro w hSw; (try dsimp only at hSw); go_simp; (try with_reducible rfl))
        (try simp only [Act.put, List.setIfInBounds_toArray, List.set_cons_zero, List.set_cons_succ])
        refine wpAnyH_take (i := 4) (oi := { dst := some 43, op := Op.slice 34 (Operand.tmp 42) none none none, type := 38, pos := "law.go:42", after := #[{ on := 3, ground := Ground.data }], guard := none }) (v := ?va4) rfl (by kernel_rfl) (by kernel_rfl) (by kernel_rfl) (fun _ _ _ h => h) (Or.inl ⟨by rfl, ?hya4⟩) hHeld ?_
        case hya4 => (intro w hSw; (try dsimp only at hSw); go_simp; (try with_reducible rfl))
        (try simp only [Act.put, List.setIfInBounds_toArray, List.set_cons_zero, List.set_cons_succ])
        refine wpAnyH_ready (rs := [5, 7]) (by kernel_rfl) (by simp) ?_
        refine AllReadyH.cons (o := { dst := some 44, op := Op.buildSlice 59 2 #[(0, Operand.tmp 41), (1, Operand.tmp 43)], type := 59, pos := "law.go:42", after := #[{ on := 2, ground := Ground.data }, { on := 4, ground := Ground.data }], guard := none }) rfl (fun K hK => ?_) ?_
        go_simp; (first | refine newZ ?_ | refine newZd ?_); intro wp hp bp; have HP := hid hp; have BP := hid bp; have pl := (Array.getElem?_eq_some_iff.1 hp).1; clear hp bp
        refine hK.out _ _ (by first | exact hHeld.trans (BP.out.mono hHeld.size) | exact BP.out) (fun hHeld => ?_)
        clear hK K
        (try simp only [List.setIfInBounds_toArray, List.set_cons_zero, List.set_cons_succ])
        refine wpAnyH_ready (rs := [6, 7]) (by kernel_rfl) (by simp) ?_
        refine AllReadyH.cons (o := { dst := some 45, op := Op.call { callee := Callee.value (Operand.func 10), args := #[Operand.tmp 39, Operand.const (Value.string { data := #[109, 111, 110, 101, 121, 101, 114, 47, 116, 111, 107, 101, 110] }), Operand.tmp 44], argTypes := #[30, 9, 59] }, type := 33, pos := "law.go:42", after := #[{ on := 0, ground := Ground.data }, { on := 5, ground := Ground.data }], guard := none }) rfl (fun K hK => ?_) ?_
        go_simp; refine (rtag2_walk _ V o.A o.B hok'.out.1 hok'.out.2.1 _ (by first | exact HP.out | exact heap_keep HP.out BA.out) (hSA.out.below hHeld) (hSB.out.below hHeld)).mono ?_; rintro e wt ⟨rfl, bt⟩; have BT := hid bt; clear bt
        refine hK.out _ _ (by first | exact hHeld.trans (BT.out.mono hHeld.size) | exact BT.out) (fun hHeld => ?_)
        clear hK K
        (try simp only [List.setIfInBounds_toArray, List.set_cons_zero, List.set_cons_succ])
        refine wpAnyH_ready (rs := [7]) (by kernel_rfl) (by simp) ?_
        refine AllReadyH.cons (o := { dst := some 9, op := Op.alloc 33, type := 0, pos := "law.go:42", after := #[], guard := none }) rfl (fun K hK => ?_) ?_
        have hs7 := hHeld.size; go_simp; (first | refine newZ ?_ | refine newZd ?_); intro wa ha ba; have HA := hid ha; have BA := hid ba; have al := (Array.getElem?_eq_some_iff.1 ha).1; clear ha ba
        refine hK.out _ _ (by first | exact hHeld.trans (BA.out.mono hHeld.size) | exact BA.out) (fun hHeld => ?_)
        clear hK K
        (try simp only [List.setIfInBounds_toArray, List.set_cons_zero, List.set_cons_succ])
        refine wpAnyH_ready (rs := [8]) (by kernel_rfl) (by simp) ?_
        refine AllReadyH.cons (o := { dst := none, op := Op.store 33 (Operand.tmp 9) (Operand.tmp 45), type := 0, pos := "law.go:42", after := #[{ on := 7, ground := Ground.data }, { on := 6, ground := Ground.data }, { on := 6, ground := Ground.chain }, { on := 0, ground := Ground.phase }, { on := 1, ground := Ground.phase }, { on := 2, ground := Ground.phase }, { on := 3, ground := Ground.phase }, { on := 4, ground := Ground.phase }, { on := 5, ground := Ground.phase }, { on := 6, ground := Ground.phase }, { on := 7, ground := Ground.phase }], guard := none }) rfl (fun K hK => ?_) ?_
        rw [if_pos (by rfl)]; unfold hv; refine wp_store_row _ _ _ rfl _ (nums .u8 (tokD o.A o.B)).toArray rfl rfl _ _ (by first | exact HA.out | exact heap_keep HA.out BP.out | exact heap_keep HA.out BT.out | exact heap_keep (heap_keep HA.out BP.out) BT.out) (infoO' (tokD_ok _ _).1) (sizeO' (tokD_ok _ _).1 _ rfl) (one32 _) ?_
        refine hK.out _ _ (below_setRow hHeld (by first | exact hHeld.size | omega) _) (fun hHeld => ?_)
        clear hK K
        (try simp only [List.setIfInBounds_toArray, List.set_cons_zero, List.set_cons_succ])
        refine wpAnyH_done (by kernel_rfl) ?_ _
        rotate_left
        exact AllReadyH.nil
        exact AllReadyH.nil
        refine AllReadyH.cons (o := { dst := some 9, op := Op.alloc 33, type := 0, pos := "law.go:42", after := #[], guard := none }) rfl (fun K hK => ?_) ?_
        have hs7 := hHeld.size; go_simp; (first | refine newZ ?_ | refine newZd ?_); intro wa ha ba; have HA := hid ha; have BA := hid ba; have al := (Array.getElem?_eq_some_iff.1 ha).1; clear ha ba
        refine hK.out _ _ (by first | exact hHeld.trans (BA.out.mono hHeld.size) | exact BA.out) (fun hHeld => ?_)
        clear hK K
        (try simp only [List.setIfInBounds_toArray, List.set_cons_zero, List.set_cons_succ])
        refine wpAnyH_ready (rs := [6]) (by kernel_rfl) (by simp) ?_
        refine AllReadyH.cons (o := { dst := some 45, op := Op.call { callee := Callee.value (Operand.func 10), args := #[Operand.tmp 39, Operand.const (Value.string { data := #[109, 111, 110, 101, 121, 101, 114, 47, 116, 111, 107, 101, 110] }), Operand.tmp 44], argTypes := #[30, 9, 59] }, type := 33, pos := "law.go:42", after := #[{ on := 0, ground := Ground.data }, { on := 5, ground := Ground.data }], guard := none }) rfl (fun K hK => ?_) ?_
        go_simp; refine (rtag2_walk _ V o.A o.B hok'.out.1 hok'.out.2.1 _ (by first | exact HP.out | exact heap_keep HP.out BA.out) (hSA.out.below hHeld) (hSB.out.below hHeld)).mono ?_; rintro e wt ⟨rfl, bt⟩; have BT := hid bt; clear bt
        refine hK.out _ _ (by first | exact hHeld.trans (BT.out.mono hHeld.size) | exact BT.out) (fun hHeld => ?_)
        clear hK K
        (try simp only [List.setIfInBounds_toArray, List.set_cons_zero, List.set_cons_succ])
        refine wpAnyH_ready (rs := [8]) (by kernel_rfl) (by simp) ?_
        refine AllReadyH.cons (o := { dst := none, op := Op.store 33 (Operand.tmp 9) (Operand.tmp 45), type := 0, pos := "law.go:42", after := #[{ on := 7, ground := Ground.data }, { on := 6, ground := Ground.data }, { on := 6, ground := Ground.chain }, { on := 0, ground := Ground.phase }, { on := 1, ground := Ground.phase }, { on := 2, ground := Ground.phase }, { on := 3, ground := Ground.phase }, { on := 4, ground := Ground.phase }, { on := 5, ground := Ground.phase }, { on := 6, ground := Ground.phase }, { on := 7, ground := Ground.phase }], guard := none }) rfl (fun K hK => ?_) ?_
        rw [if_pos (by rfl)]; unfold hv; refine wp_store_row _ _ _ rfl _ (nums .u8 (tokD o.A o.B)).toArray rfl rfl _ _ (by first | exact HA.out | exact heap_keep HA.out BP.out | exact heap_keep HA.out BT.out | exact heap_keep (heap_keep HA.out BP.out) BT.out) (infoO' (tokD_ok _ _).1) (sizeO' (tokD_ok _ _).1 _ rfl) (one32 _) ?_
        refine hK.out _ _ (below_setRow hHeld (by first | exact hHeld.size | omega) _) (fun hHeld => ?_)
        clear hK K
        (try simp only [List.setIfInBounds_toArray, List.set_cons_zero, List.set_cons_succ])
        refine wpAnyH_done (by kernel_rfl) ?_ _
        rotate_left
        exact AllReadyH.nil
        exact AllReadyH.nil
        exact AllReadyH.nil
        refine AllReadyH.cons (o := { dst := some 9, op := Op.alloc 33, type := 0, pos := "law.go:42", after := #[], guard := none }) rfl (fun K hK => ?_) ?_
        have hs7 := hHeld.size; go_simp; (first | refine newZ ?_ | refine newZd ?_); intro wa ha ba; have HA := hid ha; have BA := hid ba; have al := (Array.getElem?_eq_some_iff.1 ha).1; clear ha ba
        refine hK.out _ _ (by first | exact hHeld.trans (BA.out.mono hHeld.size) | exact BA.out) (fun hHeld => ?_)
        clear hK K
        (try simp only [List.setIfInBounds_toArray, List.set_cons_zero, List.set_cons_succ])
        refine wpAnyH_ready (rs := [5]) (by kernel_rfl) (by simp) ?_
        refine AllReadyH.cons (o := { dst := some 44, op := Op.buildSlice 59 2 #[(0, Operand.tmp 41), (1, Operand.tmp 43)], type := 59, pos := "law.go:42", after := #[{ on := 2, ground := Ground.data }, { on := 4, ground := Ground.data }], guard := none }) rfl (fun K hK => ?_) ?_
        go_simp; (first | refine newZ ?_ | refine newZd ?_); intro wp hp bp; have HP := hid hp; have BP := hid bp; have pl := (Array.getElem?_eq_some_iff.1 hp).1; clear hp bp
        refine hK.out _ _ (by first | exact hHeld.trans (BP.out.mono hHeld.size) | exact BP.out) (fun hHeld => ?_)
        clear hK K
        (try simp only [List.setIfInBounds_toArray, List.set_cons_zero, List.set_cons_succ])
        refine wpAnyH_ready (rs := [6]) (by kernel_rfl) (by simp) ?_
        refine AllReadyH.cons (o := { dst := some 45, op := Op.call { callee := Callee.value (Operand.func 10), args := #[Operand.tmp 39, Operand.const (Value.string { data := #[109, 111, 110, 101, 121, 101, 114, 47, 116, 111, 107, 101, 110] }), Operand.tmp 44], argTypes := #[30, 9, 59] }, type := 33, pos := "law.go:42", after := #[{ on := 0, ground := Ground.data }, { on := 5, ground := Ground.data }], guard := none }) rfl (fun K hK => ?_) ?_
        go_simp; refine (rtag2_walk _ V o.A o.B hok'.out.1 hok'.out.2.1 _ (by first | exact HP.out | exact heap_keep HP.out BA.out) (hSA.out.below hHeld) (hSB.out.below hHeld)).mono ?_; rintro e wt ⟨rfl, bt⟩; have BT := hid bt; clear bt
        refine hK.out _ _ (by first | exact hHeld.trans (BT.out.mono hHeld.size) | exact BT.out) (fun hHeld => ?_)
        clear hK K
        (try simp only [List.setIfInBounds_toArray, List.set_cons_zero, List.set_cons_succ])
        refine wpAnyH_ready (rs := [8]) (by kernel_rfl) (by simp) ?_
        refine AllReadyH.cons (o := { dst := none, op := Op.store 33 (Operand.tmp 9) (Operand.tmp 45), type := 0, pos := "law.go:42", after := #[{ on := 7, ground := Ground.data }, { on := 6, ground := Ground.data }, { on := 6, ground := Ground.chain }, { on := 0, ground := Ground.phase }, { on := 1, ground := Ground.phase }, { on := 2, ground := Ground.phase }, { on := 3, ground := Ground.phase }, { on := 4, ground := Ground.phase }, { on := 5, ground := Ground.phase }, { on := 6, ground := Ground.phase }, { on := 7, ground := Ground.phase }], guard := none }) rfl (fun K hK => ?_) ?_
        rw [if_pos (by rfl)]; unfold hv; refine wp_store_row _ _ _ rfl _ (nums .u8 (tokD o.A o.B)).toArray rfl rfl _ _ (by first | exact HA.out | exact heap_keep HA.out BP.out | exact heap_keep HA.out BT.out | exact heap_keep (heap_keep HA.out BP.out) BT.out) (infoO' (tokD_ok _ _).1) (sizeO' (tokD_ok _ _).1 _ rfl) (one32 _) ?_
        refine hK.out _ _ (below_setRow hHeld (by first | exact hHeld.size | omega) _) (fun hHeld => ?_)
        clear hK K
        (try simp only [List.setIfInBounds_toArray, List.set_cons_zero, List.set_cons_succ])
        refine wpAnyH_done (by kernel_rfl) ?_ _
        rotate_left
        exact AllReadyH.nil
        exact AllReadyH.nil
        exact AllReadyH.nil
        exact AllReadyH.nil
        all_goals
          refine MID.out _ _ _ _ _ _ _ _ _ ?_ (setRow_heap _ _ _ _ _ _ (by first | exact HA.out | exact heap_keep HA.out BP.out | exact heap_keep HA.out BT.out | exact heap_keep (heap_keep HA.out BP.out) BT.out)) hHeld
          have h1 := hHeld.size
          first | exact Nat.le_refl _ | omega
    · have hcase : i = l ∨ (i < l ∧ i = 40) := by omega
      have B := hid R.out.bel
      have e1 := z_guard
      have e2 := z_eql
      clear hlt R
      rcases hcase with rfl | ⟨h1, rfl⟩
      · have t1 : decide ((i : Int) < (i : Int)) = false := by rw [decide_eq_false_iff_not]; omega
        go_wp2_with fail
        refine (allow_nil _).mono ?_
        rintro e wi ⟨rfl, bi⟩
        have B2 := hid (bstep B.out bi)
        clear bi
        go_wp2_with fail
        refine (allowed_nil _).mono ?_
        rintro e wj ⟨rfl, bj⟩
        have B3 := hid (bstep B2.out bj)
        clear bj
        go_wp2_with fail
        refine (count_nil _).mono ?_
        rintro e wk ⟨rfl, rfl⟩
        go_wp2
        go_ret
        exact ⟨rfl, B3.out⟩
      · have t1 : decide ((40 : Int) < (l : Int)) = true := by rw [decide_eq_true_eq]; omega
        have t2 : decide (40 < l) = true := by rw [decide_eq_true_eq]; omega
        go_wp2_with fail
        refine (allow_nil _).mono ?_
        rintro e wi ⟨rfl, bi⟩
        have B2 := hid (bstep B.out bi)
        clear bi
        go_wp2_with fail
        refine (allowed_nil _).mono ?_
        rintro e wj ⟨rfl, bj⟩
        have B3 := hid (bstep B2.out bj)
        clear bj
        go_wp2_with fail
        refine (count_nil _).mono ?_
        rintro e wk ⟨rfl, rfl⟩
        go_wp2
        go_ret
        exact ⟨rfl, B3.out⟩
end Go.Proofs.YtbdganopnccicaaDoor

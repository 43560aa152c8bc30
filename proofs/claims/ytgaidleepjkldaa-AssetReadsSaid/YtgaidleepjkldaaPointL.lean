/- The walk of the statement AssetPoints. -/
import Derived.Test.YtgaidleepjkldaaPointU
import Derived.Test.YtgaidleepjkldaaKey
import Derived.Test.YtgaidleepjkldaaOpenA
namespace Go.Proofs.Ytgaidleepjkldaa
open Go.RowKit

/-- an output's cells, its number whatever -/
def pti (tx : List Nat) (o : Int) : Array Value := (nums .u8 tx ++ [Value.int .i64 o]).toArray
theorem ptv_pti (tx : List Nat) (o : Nat) : ptv tx o = pti tx (o : Int) := rfl
theorem kl_point {tx : List Nat} {o : Int} (ht : tx.length = 32) (hb : ∀ d ∈ tx, d < 256) (ho : (Lit.int .i64 o).wf = true) (d : Nat) : KL (d + 3) 25 (nums .u8 tx ++ [Value.int .i64 o]) := by
  refine KL.struct Try.underlying25 (by rw [List.length_append, nums_length, ht]; kernel_rfl) (by kernel_rfl) fun f hf => ?_
  simp only [List.mem_cons, List.not_mem_nil, or_false] at hf
  rcases hf with rfl | rfl
  · rw [show Try.prog.cellsOf _ = 32 by kernel_rfl]
    rw [show List.take 32 (List.drop 0 (nums .u8 tx ++ [Value.int .i64 o])) = nums .u8 tx by rw [List.drop_zero, List.take_append_of_le_length (by rw [nums_length]; omega), List.take_of_length_le (by rw [nums_length]; omega)]]
    exact KL.bytes Try.underlying23 (by kernel_rfl) ht hb
  · rw [show Try.prog.cellsOf _ = 1 by kernel_rfl]
    rw [show List.take 1 (List.drop 32 (nums .u8 tx ++ [Value.int .i64 o])) = [Value.int .i64 o] by rw [List.drop_append_of_le_length (by rw [nums_length]; omega), List.drop_of_length_le (by rw [nums_length]; omega)]; rfl]
    exact KL.int Try.underlying3 ho
theorem kv_point {tx : List Nat} {o : Int} (ht : tx.length = 32) (hb : ∀ d ∈ tx, d < 256) (ho : (Lit.int .i64 o).wf = true) : KV 25 (.agg (pti tx o)) :=
  KV.mk keyPoint.wide (by kernel_rfl) (by rw [List.length_append, nums_length, ht]; kernel_rfl) (fun d => kl_point (d := d + 5) ht hb ho)
theorem pti_get {tx : List Nat} {o : Int} (ht : tx.length = 32) : (pti tx o)[32]? = some (.int .i64 o) := by
  rw [pti, List.getElem?_toArray, List.getElem?_append_right (by rw [nums_length]; omega), nums_length, ht]; rfl
/-- a variable that holds a point -/
theorem pt_cells {w : World} {g : Nat} {t : TypeId} {tx : List Nat} {o : Int} (ht : tx.length = 32) (h : w.heap[g]? = some (.cells (pti tx o) t (0, 0))) :
    w.rangeAt g 0 (nums .u8 tx ++ [Value.int .i64 o]) ∧ w.rangeAt g 0 (nums .u8 tx) ∧ w.cell? ⟨g, 32, none⟩ = some (.int .i64 o) := by
  have h1 : w.rangeAt g 0 (nums .u8 tx ++ [Value.int .i64 o]) := fun j v hj => by
    rw [Nat.zero_add, cell_of_row _ g _ _ t (0, 0) h, pti, List.getElem?_toArray]; exact hj
  refine ⟨h1, fun j v hj => h1 j v ?_, ?_⟩
  · rw [List.getElem?_append_left (List.getElem?_eq_some_iff.1 hj).1]; exact hj
  · rw [cell_of_row _ g _ _ t (0, 0) h, pti_get ht]
theorem wpList_when {P : Program} {ops : Array Oper} {rest : List Oper} {o : Oper} {a : Act} {w : World} {Q : Exit → Act → World → Prop} (hw : Region.wanted o (yielded ops a.tmps) = true)
    (h : ∀ K : Act → World → Prop, (∀ a w, wpList P ops Q rest a w → K a w) → o.wp P a w K Q) : wpList P ops Q (o :: rest) a w :=
  wpList_step fun K hK => by rw [if_pos hw]; exact h K hK
theorem wpList_load_midG {P : Program} {ops : Array Oper} {rest : List Oper} {op : Oper} {a : Act} {w : World} {Q : Exit → Act → World → Prop} (hw : Region.wanted op (yielded ops a.tmps) = true) (ty : TypeId) (x : Operand) (ho : op.op = .load ty x)
    (b o : Nat) (hx : a.eval x = .pointer (some ⟨b, o, none⟩)) (cs : List Value) (d : TypeDesc) (hc : w.rangeAt b o cs)
    (hu : P.underlying ty = some d) (hd : d.isRow = true) (hi : (P.info? ty).map (·.size) = some cs.length)
    (h : wpList P ops Q rest (a.put op.dst (.agg cs.toArray)) w) : wpList P ops Q (op :: rest) a w :=
  wpList_when hw fun _ hK => wp_load_mid ty x ho b o hx cs d hc hu hd hi (hK _ _ h)
theorem wpList_build2G {P : Program} {ops : Array Oper} {rest : List Oper} {o : Oper} {a : Act} {w : World} {Q : Exit → Act → World → Prop} (hw : Region.wanted o (yielded ops a.tmps) = true) (t : TypeId) (x y : Operand) (ho : o.op = .build t #[(0, x), (1, y)])
    {v0 v1 : Value} {cells : Array Value} (hb : P.built t [(0, v0), (1, v1)] = some cells) (hx : a.eval x = v0) (hy : a.eval y = v1)
    (h : wpList P ops Q rest (a.put o.dst (.agg cells)) w) : wpList P ops Q (o :: rest) a w := by
  have hv : ((#[(0, x), (1, y)] : Array (Nat × Operand)).map fun (i, x) => (i, a.eval x)).toList = [(0, v0), (1, v1)] := by simp [hx, hy]
  exact wpList_when hw fun _ hK => wp_build t _ ho (by rw [hv, hb]; rfl) (hK _ _ (by rw [hv, hb]; exact h))
theorem row_range {w : World} {g : Nat} {t : TypeId} {L : List Value} (h : w.heap[g]? = some (.cells L.toArray t (0, 0))) : w.rangeAt g 0 L := fun j v hj => by
  rw [Nat.zero_add, cell_of_row _ g _ _ t (0, 0) h, List.getElem?_toArray]; exact hj
theorem heap_keep {w w' : World} {g : Nat} {x : Obj} (h : w.heap[g]? = some x) (b : Below w.heap.size w w') : w'.heap[g]? = some x := (b.block g (Array.getElem?_eq_some_iff.1 h).1).trans h
theorem range_keep {w w' : World} {g o : Nat} {L : List Value} (b : Below w.heap.size w w') (h : w.rangeAt g o L) : w'.rangeAt g o L := fun j v hj => by
  have := h j v hj
  rw [b.cell (World.block_lt_of_cell? w _ this)]; exact this
theorem cell_keep {w w' : World} {a : Addr} {v : Value} (b : Below w.heap.size w w') (h : w.cell? a = some v) : w'.cell? a = some v := by
  rw [b.cell (World.block_lt_of_cell? w _ h)]; exact h
theorem laid (w : World) (z c : Array Value) (t : TypeId) : ((w.alloc (.cells z t)).setRow w.heap.size c).heap[w.heap.size]? = some (.cells c t (0, 0)) ∧ Below w.heap.size w ((w.alloc (.cells z t)).setRow w.heap.size c) :=
  ⟨setRow_heap _ _ _ _ _ _ (heap_alloc_new w (.cells z t)), below_setRow ((Below.refl w.heap.size w).alloc (Nat.le_refl _) _) (Nat.le_refl _) c⟩
theorem ptb_len {tx : List Nat} (k : Nat) (h : tx.length = 32) : (ptb tx k).length = 36 := by simp [ptb, h]
theorem ptb_lt {tx : List Nat} {k : Nat} (hb : ∀ d ∈ tx, d < 256) (hk : k < 256) : ∀ d ∈ ptb tx k, d < 256 := by
  intro d hd
  simp only [ptb, List.mem_append, List.mem_cons, List.not_mem_nil, or_false] at hd
  rcases hd with hd | hd | hd | hd | hd
  · exact hb d hd
  all_goals omega
theorem ptb_at {tx : List Nat} (k : Nat) (h : tx.length = 32) : (ptb tx k).getD 32 0 = 0 ∧ (ptb tx k).getD 33 0 = 0 ∧ (ptb tx k).getD 34 0 = 0 ∧ (ptb tx k).getD 35 0 = k ∧ (ptb tx k).take 32 = tx := by
  have g : ∀ i, (ptb tx k).getD (32 + i) 0 = [0, 0, 0, k].getD i 0 := fun i => by
    rw [ptb, List.getD_eq_getElem?_getD, List.getElem?_append_right (by omega), h, Nat.add_sub_cancel_left, List.getD_eq_getElem?_getD]
  refine ⟨g 0, g 1, g 2, g 3, ?_⟩
  rw [ptb, List.take_append_of_le_length (by omega), List.take_of_length_le (by omega)]
theorem getP_ptb {tx : List Nat} {k : Nat} (h : tx.length = 32) : getP (ptb tx k) = (tx, k, 0) := by
  obtain ⟨h1, h2, h3, h4, h5⟩ := ptb_at k h
  unfold getP
  rw [if_pos (ptb_len k h), if_pos ⟨h1, h2, h3⟩, h4, h5]
theorem getP_ok {bs : List Nat} (hbs : ∀ d ∈ bs, d < 256) : (getP bs).1.length = 32 ∧ (∀ d ∈ (getP bs).1, d < 256) ∧ (getP bs).2.1 < 256 := by
  have hz : ∀ d ∈ pzero, d < 256 := by intro d hd; simp [pzero] at hd; omega
  unfold getP
  split
  · rename_i hl
    split
    · exact ⟨by simp; omega, fun d hd => hbs d (List.mem_of_mem_take hd), getDlt hbs 35⟩
    · exact ⟨rfl, hz, by decide⟩
  · exact ⟨rfl, hz, by decide⟩
set_option maxRecDepth 100000 in
set_option maxHeartbeats 4000000 in
theorem lawPoints (tx : List Nat) (o : Int) (htx : tx.length = 32) (hb : ∀ d ∈ tx, d < 256) (ho : (Lit.int .i64 o).wf = true) (a : Option Addr) (n cap : Nat) (bs : List Nat) (hbs : ∀ d ∈ bs, d < 256) (w : World) (h : Sl .u8 w a n cap bs) :
    Calls Try.prog 4 #[.agg (pti tx o), .slice a n cap] w fun e w' => e = .returned (.bool true) ∧ Below w.heap.size w w' := by
  have h0 := hid (heap_alloc_new w (.cells (pti tx o) 25))
  have b0 := hid ((Below.refl w.heap.size w).alloc (Nat.le_refl _) (.cells (pti tx o) 25))
  have P7 := fun wx => hid (put_walk pzero 7 rfl (by decide) wx)
  have G1 := fun wx hx => hid (get_walk a n cap bs hbs wx hx)
  have G2 := fun wx hx => hid (rget_walk a n cap bs hbs wx hx)
  obtain ⟨hx32, hxb, hu⟩ := getP_ok hbs
  unfold GetRes at G1
  unfold RGet at G2
  generalize getP bs = p at *
  obtain ⟨x, u, er⟩ := p
  (try simp only at hx32); (try simp only at hxb); (try simp only at hu); (try simp only at G1); (try simp only at G2)
  have hixu := hid (show (Try.prog.info? 25).map (·.size) = some (ptv x u).size by rw [show (ptv x u).size = 33 by simp [ptv, hx32]]; exact infoPt)
  have hzxu := hid (show zp.size = (ptv x u).size by rw [show (ptv x u).size = 33 by simp [ptv, hx32]]; rfl)
  have hoxu := hid (ptv_one x u)
  have hix := hid (show (Try.prog.info? 22).map (·.size) = some (nums .u8 x).toArray.size by rw [show (nums .u8 x).toArray.size = 32 by simp [hx32]]; exact info32)
  have hzx := hid (show hzl.size = (nums .u8 x).toArray.size by rw [show (nums .u8 x).toArray.size = 32 by simp [hx32]]; rfl)
  have hox := hid (all_oneCell_toArray (nums_oneCell .u8 x))
  have hBxu := hid (built_pt x hx32 u)
  have kxu := kv_point hx32 hxb (i64_wf (show (-9223372036854775808 : Int) ≤ (u : Int) by omega) (by omega))
  have hi25x := hid (show (Try.prog.info? 25).map (·.size) = some (nums .u8 x ++ [Value.int .i64 (u : Int)]).length by rw [List.length_append, nums_length, hx32]; exact infoPt)
  have hi32x := hid (show (Try.prog.info? 22).map (·.size) = some (nums .u8 x).length by rw [nums_length, hx32]; exact info32)
  have eqX := keyPoint.eql kxu kxu (p := True) (by simp)
  have guX := keyPoint.guarded (pti x u) (pti x u)
  have HI := hid h
  clear h kxu
  unfold pti at eqX guX
  unfold ptv at hBxu hixu hzxu hoxu G1
  have hl32x := hid hx32
  clear hx32 hxb hu
  generalize nums .u8 x ++ [Value.int .i64 (u : Int)] = PX at *
  generalize hNX : nums .u8 x = NX at *
  go_enter Try.func4, Try.ntmps4
  go_wp2_with fail
  refine (P7 _).out.mono ?_
  rintro e w1 ⟨v1, rfl, hn1, o1, b1⟩
  obtain ⟨a1, c1, rfl, s1⟩ := SlV.of_owns o1
  rw [show (ptb pzero 7).length = 36 from rfl] at s1 ⊢
  obtain ⟨b', off', ha, hc⟩ := s1.opened
  obtain rfl := ha (by decide)
  have c7 := hc 35 (by decide)
  rw [show (ptb pzero 7).getD 35 0 = 7 from rfl] at c7
  have B1 := hid (bstep b0.out b1)
  have H1 := hid (heap_keep h0.out b1)
  clear hn1 o1 b1 s1 hc b0 h0 P7
  obtain ⟨f1, f2, f3⟩ := pt_cells htx H1.out
  obtain ⟨G, hG⟩ : ∃ G, G = w.heap.size := ⟨_, rfl⟩
  rw [← hG] at f1 f2 f3 H1 ⊢
  have HG := hid hG
  clear hG
  by_cases hok : 0 ≤ o ∧ o < 256
  · obtain ⟨k, rfl⟩ := Int.eq_ofNat_of_zero_le hok.1
    have hk : k < 256 := by omega
    have tk : decide ((k : Int) < 256) = true := by rw [decide_eq_true_eq]; omega
    have PK := fun wx => hid (put_walk tx k htx hk wx)
    have PR := fun wx => hid (rpoint_walk tx k htx hk wx)
    have GK := fun a c wx hx => hid (get_walk a 36 c (ptb tx k) (ptb_lt hb hk) wx hx)
    unfold GetRes at GK
    rw [getP_ptb htx] at GK
    have SS := fun a c a' c' wx h1 h2 => hid (same_self a a' 36 c 36 c' (ptb tx k) (ptb_lt hb hk) wx h1 h2)
    have hl36 := hid (ptb_len k htx)
    have hiT := hid (show (Try.prog.info? 25).map (·.size) = some (ptv tx k).size by rw [show (ptv tx k).size = 33 by simp [ptv, htx]]; exact infoPt)
    have hzT := hid (show zp.size = (ptv tx k).size by rw [show (ptv tx k).size = 33 by simp [ptv, htx]]; rfl)
    have hoT := hid (ptv_one tx k)
    have kT := kv_point htx hb ho
    have neT := keyPoint.neq kT kT (p := True) (by simp)
    have guT := keyPoint.guarded (pti tx k) (pti tx k)
    have hi25 := hid (show (Try.prog.info? 25).map (·.size) = some (nums .u8 tx ++ [Value.int .i64 (k : Int)]).length by rw [List.length_append, nums_length, htx]; exact infoPt)
    have hi23 : (Try.prog.info? 23).map (·.size) = some (nums .u8 tx).length := by rw [nums_length, htx]; exact infoH
    clear hok kT
    go_wp2_with (refine wpList_load_mid rfl _ _ rfl G 0 rfl (nums .u8 tx ++ [Value.int .i64 (k : Int)]) _ f1 Try.underlying25 rfl hi25.out ?_)
    refine (PK _).out.mono ?_
    rintro e w2 ⟨v2, rfl, hn2, o2, b2⟩
    obtain ⟨a2, c2, rfl, s2⟩ := SlV.of_owns o2
    rw [hl36.out] at s2 ⊢
    go_wp2_with fail
    refine (GK _ _ _ s2).out.mono ?_
    rintro e w3 ⟨rfl, b3⟩
    simp only
    have L3 := laid w3 zp (ptv tx k) 25
    have A3 := hid (heap_alloc_new w3 (.cells zp 25))
    have B3 := hid (bstep (bstep (bstep B1.out b2) b3) L3.2)
    have H3 := hid (heap_keep (heap_keep (heap_keep H1.out b2) b3) L3.2)
    have HL3 := hid L3.1
    clear L3 b2 b3 o2 hn2 s2 f1 f2 f3 H1 B1 c7
    go_wp2_with (refine wpList_store_row rfl _ _ _ rfl w3.heap.size (ptv tx k) rfl rfl _ _ A3.out hiT.out hzT.out hoT.out ?_)
    show Code.wp _ _ _ _ ((w3.alloc (.cells zp 25)).setRow w3.heap.size (ptv tx k))
    clear A3
    generalize (w3.alloc (.cells zp 25)).setRow w3.heap.size (ptv tx k) = w4 at *
    generalize w3.heap.size = G6 at *
    obtain ⟨f1, f2, f3⟩ := pt_cells htx H3.out
    obtain ⟨g1, _, _⟩ := pt_cells (o := (k : Int)) htx HL3.out
    have PR2 := PR
    have un25 := Try.underlying25
    have un23 := Try.underlying23
    have hi25' := hi25.out
    unfold ptv at PK
    unfold pti at neT guT
    generalize nums .u8 tx ++ [Value.int .i64 (k : Int)] = PL at *
    generalize nums .u8 tx = TL at *
    have ld6 : ∀ w' : World, w'.rangeAt G6 0 PL → (Instr.loadAt 25 (.pointer (some ⟨G6, 0, none⟩))).run Try.prog w' = .ok (.agg PL.toArray) w' := fun w' hw => run_loadAt_mid w' G6 0 _ PL _ hw un25 rfl hi25'
    have ldG : ∀ w' : World, w'.rangeAt G 0 PL → (Instr.loadAt 25 (.pointer (some ⟨G, 0, none⟩))).run Try.prog w' = .ok (.agg PL.toArray) w' := fun w' hw => run_loadAt_mid w' G 0 _ PL _ hw un25 rfl hi25'
    have keepS : ∀ X Y : World, Below X.heap.size X Y → (X.rangeAt G 0 PL ∧ X.rangeAt G 0 TL ∧ X.cell? ⟨G, 32, none⟩ = some (.int .i64 (k : Int)) ∧ X.rangeAt G6 0 PL) → (Y.rangeAt G 0 PL ∧ Y.rangeAt G 0 TL ∧ Y.cell? ⟨G, 32, none⟩ = some (.int .i64 (k : Int)) ∧ Y.rangeAt G6 0 PL) :=
      fun X Y hb h => ⟨range_keep hb h.1, range_keep hb h.2.1, cell_keep hb h.2.2.1, range_keep hb h.2.2.2⟩
    refine wp_region_held_drew (S := fun w' => w'.rangeAt G 0 PL ∧ w'.rangeAt G 0 TL ∧ w'.cell? ⟨G, 32, none⟩ = some (.int .i64 (k : Int)) ∧ w'.rangeAt G6 0 PL) (by kernel_rfl) (⟨f1, f2, f3, g1⟩) (fun hHeld => ?_)
    try simp only [List.size_toArray, List.length_cons, List.length_nil, Nat.reduceAdd, Array.replicate_succ, Array.replicate_zero, List.push_toArray, List.nil_append, List.cons_append]
    refine wpAnyH_take (i := 0) (oi := { dst := some 38, op := Op.move (Operand.tmp 7), type := 33, pos := "law.go:82", after := #[], guard := none }) (v := ?v1) rfl (by kernel_rfl) (by kernel_rfl) (by kernel_rfl) (fun _ _ _ h => h) (Or.inl ⟨by rfl, ?hy1⟩) hHeld ?_
    case hy1 => (intro w hSw; (try dsimp only at hSw); go_simp; (try with_reducible rfl))
    (try simp only [Act.put, List.setIfInBounds_toArray, List.set_cons_zero, List.set_cons_succ])
    refine wpAnyH_take (i := 1) (oi := { dst := some 39, op := Op.binOp BinOp.neq 33 (Operand.tmp 38) (Operand.const (Value.int IntKind.i64 0)) 33, type := 4, pos := "law.go:82", after := #[{ on := 0, ground := Ground.data }], guard := none }) (v := ?v2) rfl (by kernel_rfl) (by kernel_rfl) (by kernel_rfl) (fun _ _ _ h => h) (Or.inl ⟨by rfl, ?hy2⟩) hHeld ?_
    case hy2 => (intro w hSw; (try dsimp only at hSw); go_simp; (try with_reducible rfl))
    (try simp only [Act.put, List.setIfInBounds_toArray, List.set_cons_zero, List.set_cons_succ])
    refine wpAnyH_take (i := 2) (oi := { dst := some 40, op := Op.move (Operand.tmp 39), type := 4, pos := "law.go:82", after := #[{ on := 1, ground := Ground.data }], guard := none }) (v := ?v3) rfl (by kernel_rfl) (by kernel_rfl) (by kernel_rfl) (fun _ _ _ h => h) (Or.inl ⟨by rfl, ?hy3⟩) hHeld ?_
    case hy3 => (intro w hSw; (try dsimp only at hSw); go_simp; (try with_reducible rfl))
    (try simp only [Act.put, List.setIfInBounds_toArray, List.set_cons_zero, List.set_cons_succ])
    refine' wpAnyH_take (i := 3) (oi := { dst := some 41, op := Op.load 25 (Operand.tmp 6), type := 25, pos := "law.go:82", after := #[{ on := 2, ground := Ground.guard }], guard := some (2, false) }) (v := _) rfl (by kernel_rfl) (by kernel_rfl) (by kernel_rfl) (fun _ _ _ h => h) (yieldsIf_load_mid (by rfl) _ _ rfl G6 0 rfl PL _ (fun _ h => h.2.2.2) un25 rfl hi25') hHeld ?_
    (try simp only [Act.put, List.setIfInBounds_toArray, List.set_cons_zero, List.set_cons_succ])
    refine' wpAnyH_take (i := 4) (oi := { dst := some 42, op := Op.load 25 (Operand.tmp 2), type := 25, pos := "law.go:82", after := #[{ on := 2, ground := Ground.guard }], guard := some (2, false) }) (v := _) rfl (by kernel_rfl) (by kernel_rfl) (by kernel_rfl) (fun _ _ _ h => h) (yieldsIf_load_mid (by rfl) _ _ rfl G 0 rfl PL _ (fun _ h => h.1) un25 rfl hi25') hHeld ?_
    (try simp only [Act.put, List.setIfInBounds_toArray, List.set_cons_zero, List.set_cons_succ])
    refine wpAnyH_take (i := 5) (oi := { dst := some 43, op := Op.binOp BinOp.neq 25 (Operand.tmp 41) (Operand.tmp 42) 25, type := 4, pos := "law.go:82", after := #[{ on := 3, ground := Ground.data }, { on := 4, ground := Ground.data }, { on := 2, ground := Ground.guard }], guard := some (2, false) }) (v := ?v4) rfl (by kernel_rfl) (by kernel_rfl) (by kernel_rfl) (fun _ _ _ h => h) (Or.inl ⟨by rfl, ?hy4⟩) hHeld ?_
    case hy4 => (intro w hSw; (try dsimp only at hSw); go_simp; (try with_reducible rfl))
    (try simp only [Act.put, List.setIfInBounds_toArray, List.set_cons_zero, List.set_cons_succ])
    refine wpAnyH_take (i := 6) (oi := { dst := some 44, op := Op.pick (Operand.tmp 40) (Operand.const (Value.bool true)) (Operand.tmp 43), type := 4, pos := "law.go:82", after := #[{ on := 2, ground := Ground.data }, { on := 5, ground := Ground.data }], guard := none }) (v := ?v5) rfl (by kernel_rfl) (by kernel_rfl) (by kernel_rfl) (fun _ _ _ h => h) (Or.inl ⟨by rfl, ?hy5⟩) hHeld ?_
    case hy5 => (intro w hSw; (try dsimp only at hSw); go_simp; (try with_reducible rfl))
    (try simp only [Act.put, List.setIfInBounds_toArray, List.set_cons_zero, List.set_cons_succ])
    refine wpAnyH_take (i := 7) (oi := { dst := some 45, op := Op.move (Operand.tmp 44), type := 4, pos := "law.go:82", after := #[{ on := 6, ground := Ground.data }, { on := 2, ground := Ground.chain }], guard := none }) (v := ?v6) rfl (by kernel_rfl) (by kernel_rfl) (by kernel_rfl) (fun _ _ _ h => h) (Or.inl ⟨by rfl, ?hy6⟩) hHeld ?_
    case hy6 => (intro w hSw; (try dsimp only at hSw); go_simp; (try with_reducible rfl))
    (try simp only [Act.put, List.setIfInBounds_toArray, List.set_cons_zero, List.set_cons_succ])
    refine' wpAnyH_take (i := 8) (oi := { dst := some 46, op := Op.load 25 (Operand.tmp 2), type := 25, pos := "law.go:82", after := #[{ on := 7, ground := Ground.guard }], guard := some (7, false) }) (v := _) rfl (by kernel_rfl) (by kernel_rfl) (by kernel_rfl) (fun _ _ _ h => h) (yieldsIf_load_mid (by rfl) _ _ rfl G 0 rfl PL _ (fun _ h => h.1) un25 rfl hi25') hHeld ?_
    (try simp only [Act.put, List.setIfInBounds_toArray, List.set_cons_zero, List.set_cons_succ])
    refine wpAnyH_take (i := 10) (oi := { dst := some 48, op := Op.fieldAddr 25 (Operand.tmp 2) 0, type := 0, pos := "law.go:82", after := #[{ on := 7, ground := Ground.guard }], guard := some (7, false) }) (v := ?v7) rfl (by kernel_rfl) (by kernel_rfl) (by kernel_rfl) (fun _ _ _ h => h) (Or.inl ⟨by rfl, ?hy7⟩) hHeld ?_
    case hy7 => (intro w hSw; (try dsimp only at hSw); go_simp; (try with_reducible rfl))
    (try simp only [Act.put, List.setIfInBounds_toArray, List.set_cons_zero, List.set_cons_succ])
    refine' wpAnyH_take (i := 11) (oi := { dst := some 49, op := Op.load 23 (Operand.tmp 48), type := 23, pos := "law.go:82", after := #[{ on := 10, ground := Ground.data }, { on := 7, ground := Ground.guard }], guard := some (7, false) }) (v := _) rfl (by kernel_rfl) (by kernel_rfl) (by kernel_rfl) (fun _ _ _ h => h) (yieldsIf_load_mid (by rfl) _ _ rfl G 0 rfl TL _ (fun _ h => h.2.1) un23 rfl hi23) hHeld ?_
    (try simp only [Act.put, List.setIfInBounds_toArray, List.set_cons_zero, List.set_cons_succ])
    refine wpAnyH_take (i := 12) (oi := { dst := some 50, op := Op.fieldAddr 25 (Operand.tmp 2) 1, type := 0, pos := "law.go:82", after := #[{ on := 7, ground := Ground.guard }], guard := some (7, false) }) (v := ?v8) rfl (by kernel_rfl) (by kernel_rfl) (by kernel_rfl) (fun _ _ _ h => h) (Or.inl ⟨by rfl, ?hy8⟩) hHeld ?_
    case hy8 => (intro w hSw; (try dsimp only at hSw); go_simp; (try with_reducible rfl))
    (try simp only [Act.put, List.setIfInBounds_toArray, List.set_cons_zero, List.set_cons_succ])
    refine wpAnyH_take (i := 13) (oi := { dst := some 51, op := Op.load 3 (Operand.tmp 50), type := 3, pos := "law.go:82", after := #[{ on := 12, ground := Ground.data }, { on := 7, ground := Ground.guard }], guard := some (7, false) }) (v := ?v9) rfl (by kernel_rfl) (by kernel_rfl) (by kernel_rfl) (fun _ _ _ h => h) (Or.inl ⟨by rfl, ?hy9⟩) hHeld ?_
    case hy9 => (intro w hSw; (try dsimp only at hSw); go_simp; (try with_reducible rfl))
    (try simp only [Act.put, List.setIfInBounds_toArray, List.set_cons_zero, List.set_cons_succ])
    refine wpAnyH_ready (rs := [9]) (by kernel_rfl) (by simp) ?_
    refine AllReadyH.cons (o := { dst := some 47, op := Op.call { callee := Callee.value (Operand.func 8), args := #[Operand.tmp 46], argTypes := #[25] }, type := 26, pos := "law.go:82", after := #[{ on := 8, ground := Ground.data }, { on := 7, ground := Ground.chain }, { on := 7, ground := Ground.guard }], guard := some (7, false) }) rfl (fun K hK => ?_) ?_
    go_simp; refine (PK _).out.mono ?_; rintro e wA ⟨vA, rfl, _, oA, bA⟩; obtain ⟨aA, cA, rfl, sA⟩ := SlV.of_owns oA; rw [hl36.out] at sA ⊢; clear oA; (try have sB' := sB.below bA)
    refine hK.out _ _ (keepS _ _ bA hHeld) (fun hHeld => ?_)
    clear hK K
    (try simp only [List.setIfInBounds_toArray, List.set_cons_zero, List.set_cons_succ])
    refine wpAnyH_ready (rs := [14]) (by kernel_rfl) (by simp) ?_
    refine AllReadyH.cons (o := { dst := some 52, op := Op.call { callee := Callee.value (Operand.func 11), args := #[Operand.tmp 49, Operand.tmp 51], argTypes := #[22, 3] }, type := 26, pos := "law.go:82", after := #[{ on := 11, ground := Ground.data }, { on := 13, ground := Ground.data }, { on := 9, ground := Ground.chain }, { on := 7, ground := Ground.guard }], guard := some (7, false) }) rfl (fun K hK => ?_) ?_
    go_simp; refine (PR2 _).out.mono ?_; rintro e wB ⟨vB, rfl, _, oB, bB⟩; obtain ⟨aB, cB, rfl, sB⟩ := SlV.of_owns oB; rw [hl36.out] at sB ⊢; clear oB; (try have sA' := sA.below bB)
    refine hK.out _ _ (keepS _ _ bB hHeld) (fun hHeld => ?_)
    clear hK K
    (try simp only [List.setIfInBounds_toArray, List.set_cons_zero, List.set_cons_succ])
    refine wpAnyH_ready (rs := [15]) (by kernel_rfl) (by simp) ?_
    refine AllReadyH.cons (o := { dst := some 53, op := Op.call { callee := Callee.value (Operand.func 10), args := #[Operand.tmp 47, Operand.tmp 52], argTypes := #[26, 26] }, type := 4, pos := "law.go:82", after := #[{ on := 9, ground := Ground.data }, { on := 14, ground := Ground.data }, { on := 14, ground := Ground.chain }, { on := 7, ground := Ground.guard }], guard := some (7, false) }) rfl (fun K hK => ?_) ?_
    go_simp; (first | refine (SS _ _ _ _ _ sA' sB).out.mono ?_ | refine (SS _ _ _ _ _ sA sB').out.mono ?_); rintro e wC ⟨rfl, hC⟩; subst hC
    refine hK.out _ _ (hHeld) (fun hHeld => ?_)
    clear hK K
    (try simp only [List.setIfInBounds_toArray, List.set_cons_zero, List.set_cons_succ])
    refine wpAnyH_take (i := 16) (oi := { dst := some 54, op := Op.unOp UnOp.not 4 (Operand.tmp 53), type := 4, pos := "law.go:82", after := #[{ on := 15, ground := Ground.data }, { on := 7, ground := Ground.guard }], guard := some (7, false) }) (v := ?v10) rfl (by kernel_rfl) (by kernel_rfl) (by kernel_rfl) (fun _ _ _ h => h) (Or.inl ⟨by rfl, ?hy10⟩) hHeld ?_
    case hy10 => (intro w hSw; (try dsimp only at hSw); go_simp; (try with_reducible rfl))
    (try simp only [Act.put, List.setIfInBounds_toArray, List.set_cons_zero, List.set_cons_succ])
    refine wpAnyH_take (i := 17) (oi := { dst := some 55, op := Op.pick (Operand.tmp 45) (Operand.const (Value.bool true)) (Operand.tmp 54), type := 4, pos := "law.go:82", after := #[{ on := 7, ground := Ground.data }, { on := 16, ground := Ground.data }], guard := none }) (v := ?v11) rfl (by kernel_rfl) (by kernel_rfl) (by kernel_rfl) (fun _ _ _ h => h) (Or.inl ⟨by rfl, ?hy11⟩) hHeld ?_
    case hy11 => (intro w hSw; (try dsimp only at hSw); go_simp; (try with_reducible rfl))
    (try simp only [Act.put, List.setIfInBounds_toArray, List.set_cons_zero, List.set_cons_succ])
    refine wpAnyH_done (by kernel_rfl) ?_ _
    rotate_left
    exact AllReadyH.nil
    exact AllReadyH.nil
    exact AllReadyH.nil
    have BZ := hid (bstep (bstep (bstep B3.out ((Below.refl w4.heap.size w4).drew)) bA) bB)
    (try clear sB'); clear bA bB sA sB sA' hHeld keepS ld6 ldG neT guT PR2 PK PR GK SS f1 f2 f3 g1 H3 HL3 B3
    go_wp2_with fail
    refine (G1 _ (HI.out.below BZ.out)).out.mono ?_
    rintro e w5 ⟨rfl, b5⟩
    have A5 := hid (heap_alloc_new w5 (.cells zp 25))
    have L5 := laid w5 zp PX.toArray 25
    have B5 := hid (bstep (bstep BZ.out b5) L5.2)
    have HL5 := hid L5.1
    clear b5 L5 BZ
    go_wp2_with (refine wpList_store_row rfl _ _ _ rfl w5.heap.size PX.toArray rfl rfl _ _ A5.out hixu.out hzxu.out hoxu.out ?_)
    refine (G2 _ (HI.out.below B5.out)).out.mono ?_
    rintro e w7 ⟨rfl, b7⟩
    have A7 := hid (heap_alloc_new w7 (.cells hzl 22))
    have L7 := laid w7 hzl NX.toArray 22
    have B7 := hid (bstep (bstep B5.out b7) L7.2)
    have H5 := row_range (heap_keep (heap_keep HL5.out b7) L7.2)
    have H7 := row_range L7.1
    clear b7 L7 B5
    go_wp2_with (first | refine wpList_store_row rfl _ _ _ rfl w7.heap.size NX.toArray rfl rfl _ _ A7.out hix.out hzx.out hox.out ?_ | refine wpList_load_midG rfl _ _ rfl w5.heap.size 0 rfl PX _ H5 Try.underlying25 rfl hi25x.out ?_ | refine wpList_load_midG rfl _ _ rfl w7.heap.size 0 rfl NX _ H7 Try.underlying22 rfl hi32x.out ?_ | refine wpList_build2G rfl _ _ _ rfl hBxu.out rfl rfl ?_)
    go_ret
    exact ⟨rfl, B7.out⟩
  · have BZ := B1
    by_cases h0o : 0 ≤ o
    · have t1 : decide (0 ≤ o) = true := by rw [decide_eq_true_eq]; exact h0o
      have t2 : decide (o < 256) = false := by rw [decide_eq_false_iff_not]; omega
      clear hok h0o
      go_wp2_with fail
      refine (G1 _ (HI.out.below BZ.out)).out.mono ?_
      rintro e w5 ⟨rfl, b5⟩
      have A5 := hid (heap_alloc_new w5 (.cells zp 25))
      have L5 := laid w5 zp PX.toArray 25
      have B5 := hid (bstep (bstep BZ.out b5) L5.2)
      have HL5 := hid L5.1
      clear b5 L5 BZ
      go_wp2_with (refine wpList_store_row rfl _ _ _ rfl w5.heap.size PX.toArray rfl rfl _ _ A5.out hixu.out hzxu.out hoxu.out ?_)
      refine (G2 _ (HI.out.below B5.out)).out.mono ?_
      rintro e w7 ⟨rfl, b7⟩
      have A7 := hid (heap_alloc_new w7 (.cells hzl 22))
      have L7 := laid w7 hzl NX.toArray 22
      have B7 := hid (bstep (bstep B5.out b7) L7.2)
      have H5 := row_range (heap_keep (heap_keep HL5.out b7) L7.2)
      have H7 := row_range L7.1
      clear b7 L7 B5
      go_wp2_with (first | refine wpList_store_row rfl _ _ _ rfl w7.heap.size NX.toArray rfl rfl _ _ A7.out hix.out hzx.out hox.out ?_ | refine wpList_load_midG rfl _ _ rfl w5.heap.size 0 rfl PX _ H5 Try.underlying25 rfl hi25x.out ?_ | refine wpList_load_midG rfl _ _ rfl w7.heap.size 0 rfl NX _ H7 Try.underlying22 rfl hi32x.out ?_ | refine wpList_build2G rfl _ _ _ rfl hBxu.out rfl rfl ?_)
      go_ret
      exact ⟨rfl, B7.out⟩
    · have t1 : decide (0 ≤ o) = false := by rw [decide_eq_false_iff_not]; exact h0o
      clear hok h0o
      go_wp2_with fail
      refine (G1 _ (HI.out.below BZ.out)).out.mono ?_
      rintro e w5 ⟨rfl, b5⟩
      have A5 := hid (heap_alloc_new w5 (.cells zp 25))
      have L5 := laid w5 zp PX.toArray 25
      have B5 := hid (bstep (bstep BZ.out b5) L5.2)
      have HL5 := hid L5.1
      clear b5 L5 BZ
      go_wp2_with (refine wpList_store_row rfl _ _ _ rfl w5.heap.size PX.toArray rfl rfl _ _ A5.out hixu.out hzxu.out hoxu.out ?_)
      refine (G2 _ (HI.out.below B5.out)).out.mono ?_
      rintro e w7 ⟨rfl, b7⟩
      have A7 := hid (heap_alloc_new w7 (.cells hzl 22))
      have L7 := laid w7 hzl NX.toArray 22
      have B7 := hid (bstep (bstep B5.out b7) L7.2)
      have H5 := row_range (heap_keep (heap_keep HL5.out b7) L7.2)
      have H7 := row_range L7.1
      clear b7 L7 B5
      go_wp2_with (first | refine wpList_store_row rfl _ _ _ rfl w7.heap.size NX.toArray rfl rfl _ _ A7.out hix.out hzx.out hox.out ?_ | refine wpList_load_midG rfl _ _ rfl w5.heap.size 0 rfl PX _ H5 Try.underlying25 rfl hi25x.out ?_ | refine wpList_load_midG rfl _ _ rfl w7.heap.size 0 rfl NX _ H7 Try.underlying22 rfl hi32x.out ?_ | refine wpList_build2G rfl _ _ _ rfl hBxu.out rfl rfl ?_)
      go_ret
      exact ⟨rfl, B7.out⟩
theorem lawPoints' (cs : Array Value) (x : List Nat × Int) (a : Option Addr) (n cap : Nat) (bs : List Nat) (hbs : ∀ d ∈ bs, d < 256) (_hz : n * 1 ≤ 140737488351232) (w : World)
    (e : Value.agg cs = .agg (nums .u8 x.1 ++ [Value.int .i64 x.2]).toArray) (s : (x.1.length = 32 ∧ ∀ d ∈ x.1, d < 256) ∧ (Lit.int .i64 x.2).wf = true) (h : Sl .u8 w a n cap bs) :
    Calls Try.prog 4 #[.agg cs, .slice a n cap] w fun e w' => e = .returned (.bool true) ∧ Below w.heap.size w w' := by
  have h1 := Value.agg.inj e
  subst h1
  exact lawPoints x.1 x.2 s.1.1 s.1.2 s.2 a n cap bs hbs w h
end Go.Proofs.Ytgaidleepjkldaa

/- Steps of a walk by the operation's own shape: an operation of another kind is passed by at once. -/
import Derived.Test.YtnophelfpoldfaaGreatDoorGVar
import Derived.Test.YtnophelfpoldfaaGreatDoorGDsg
namespace Go.Proofs.YtnophelfpoldfaaGreatDoor
open Go.RowKit

section
variable {P : Program} {ops : Array Oper} {rest : List Oper} {a : Act} {w : World} {Q : Exit → Act → World → Prop} {dst : Option Tmp} {ty t : TypeId} {pos : String} {af : Array Edge}
theorem wpList_mk0 {cells : Array Value} (hb : P.built t [] = some cells)  (h : wpList P ops Q rest (a.put dst (.agg cells)) w) :
    wpList P ops Q ({ dst := dst, op := Op.build t #[], type := ty, pos := pos, after := af, guard := none } :: rest) a w := by
  have hv : ((#[] : Array (Nat × Operand)).map fun (i, x) => (i, a.eval x)).toList = [] := by simp
  exact wpList_build rfl t _ rfl (by rw [hv, hb]; rfl) (by rw [hv, hb]; exact h)
theorem wpList_mk1 {i0 : Nat} {x0 : Operand} {v0 : Value} {cells : Array Value} (hb : P.built t [(i0, v0)] = some cells) (h0 : a.eval x0 = v0) (h : wpList P ops Q rest (a.put dst (.agg cells)) w) :
    wpList P ops Q ({ dst := dst, op := Op.build t #[(i0, x0)], type := ty, pos := pos, after := af, guard := none } :: rest) a w := by
  have hv : ((#[(i0, x0)] : Array (Nat × Operand)).map fun (i, x) => (i, a.eval x)).toList = [(i0, v0)] := by simp [h0]
  exact wpList_build rfl t _ rfl (by rw [hv, hb]; rfl) (by rw [hv, hb]; exact h)
theorem wpList_mk2 {i0 i1 : Nat} {x0 x1 : Operand} {v0 v1 : Value} {cells : Array Value} (hb : P.built t [(i0, v0), (i1, v1)] = some cells) (h0 : a.eval x0 = v0) (h1 : a.eval x1 = v1) (h : wpList P ops Q rest (a.put dst (.agg cells)) w) :
    wpList P ops Q ({ dst := dst, op := Op.build t #[(i0, x0), (i1, x1)], type := ty, pos := pos, after := af, guard := none } :: rest) a w := by
  have hv : ((#[(i0, x0), (i1, x1)] : Array (Nat × Operand)).map fun (i, x) => (i, a.eval x)).toList = [(i0, v0), (i1, v1)] := by simp [h0, h1]
  exact wpList_build rfl t _ rfl (by rw [hv, hb]; rfl) (by rw [hv, hb]; exact h)
theorem wpList_mk3 {i0 i1 i2 : Nat} {x0 x1 x2 : Operand} {v0 v1 v2 : Value} {cells : Array Value} (hb : P.built t [(i0, v0), (i1, v1), (i2, v2)] = some cells) (h0 : a.eval x0 = v0) (h1 : a.eval x1 = v1) (h2 : a.eval x2 = v2) (h : wpList P ops Q rest (a.put dst (.agg cells)) w) :
    wpList P ops Q ({ dst := dst, op := Op.build t #[(i0, x0), (i1, x1), (i2, x2)], type := ty, pos := pos, after := af, guard := none } :: rest) a w := by
  have hv : ((#[(i0, x0), (i1, x1), (i2, x2)] : Array (Nat × Operand)).map fun (i, x) => (i, a.eval x)).toList = [(i0, v0), (i1, v1), (i2, v2)] := by simp [h0, h1, h2]
  exact wpList_build rfl t _ rfl (by rw [hv, hb]; rfl) (by rw [hv, hb]; exact h)
theorem wpList_mk4 {i0 i1 i2 i3 : Nat} {x0 x1 x2 x3 : Operand} {v0 v1 v2 v3 : Value} {cells : Array Value} (hb : P.built t [(i0, v0), (i1, v1), (i2, v2), (i3, v3)] = some cells) (h0 : a.eval x0 = v0) (h1 : a.eval x1 = v1) (h2 : a.eval x2 = v2) (h3 : a.eval x3 = v3) (h : wpList P ops Q rest (a.put dst (.agg cells)) w) :
    wpList P ops Q ({ dst := dst, op := Op.build t #[(i0, x0), (i1, x1), (i2, x2), (i3, x3)], type := ty, pos := pos, after := af, guard := none } :: rest) a w := by
  have hv : ((#[(i0, x0), (i1, x1), (i2, x2), (i3, x3)] : Array (Nat × Operand)).map fun (i, x) => (i, a.eval x)).toList = [(i0, v0), (i1, v1), (i2, v2), (i3, v3)] := by simp [h0, h1, h2, h3]
  exact wpList_build rfl t _ rfl (by rw [hv, hb]; rfl) (by rw [hv, hb]; exact h)
theorem wpList_mk5 {i0 i1 i2 i3 i4 : Nat} {x0 x1 x2 x3 x4 : Operand} {v0 v1 v2 v3 v4 : Value} {cells : Array Value} (hb : P.built t [(i0, v0), (i1, v1), (i2, v2), (i3, v3), (i4, v4)] = some cells) (h0 : a.eval x0 = v0) (h1 : a.eval x1 = v1) (h2 : a.eval x2 = v2) (h3 : a.eval x3 = v3) (h4 : a.eval x4 = v4) (h : wpList P ops Q rest (a.put dst (.agg cells)) w) :
    wpList P ops Q ({ dst := dst, op := Op.build t #[(i0, x0), (i1, x1), (i2, x2), (i3, x3), (i4, x4)], type := ty, pos := pos, after := af, guard := none } :: rest) a w := by
  have hv : ((#[(i0, x0), (i1, x1), (i2, x2), (i3, x3), (i4, x4)] : Array (Nat × Operand)).map fun (i, x) => (i, a.eval x)).toList = [(i0, v0), (i1, v1), (i2, v2), (i3, v3), (i4, v4)] := by simp [h0, h1, h2, h3, h4]
  exact wpList_build rfl t _ rfl (by rw [hv, hb]; rfl) (by rw [hv, hb]; exact h)
theorem wpList_ld {x : Operand} (b o : Nat) (cs : List Value) {d : TypeDesc} (hc : w.rangeAt b o cs) (hu : P.underlying t = some d) (hi : Hid ((P.info? t).map (·.size) = some cs.length)) (hx : a.eval x = .pointer (some ⟨b, o, none⟩)) (hd : d.isRow = true)
    (h : wpList P ops Q rest (a.put dst (.agg cs.toArray)) w) :
    wpList P ops Q ({ dst := dst, op := Op.load t x, type := ty, pos := pos, after := af, guard := none } :: rest) a w :=
  wpList_load_mid rfl t x rfl b o hx cs d hc hu hd hi.out h
theorem wpList_sr {x y : Operand} (g : Nat) (cs : Array Value) (t0 : TypeId) (old : Array Value) (hi : Hid ((P.info? t).map (·.size) = some cs.size)) (ho : Hid (old.size = cs.size)) (h1 : Hid (cs.all (·.oneCell') = true))
    (hx : a.eval x = .pointer (some ⟨g, 0, none⟩)) (hy : a.eval y = .agg cs) (hg : w.heap[g]? = some (.cells old t0 (0, 0))) (h : wpList P ops Q rest (a.put dst undef) (w.setRow g cs)) :
    wpList P ops Q ({ dst := dst, op := Op.store t x y, type := ty, pos := pos, after := af, guard := none } :: rest) a w :=
  wpList_store_row rfl t x y rfl g cs hx hy t0 old hg hi.out ho.out h1.out h
theorem wpList_ldG {x : Operand} {gd : Nat × Bool} (b o : Nat) (cs : List Value) {d : TypeDesc} (hc : w.rangeAt b o cs) (hu : P.underlying t = some d) (hi : Hid ((P.info? t).map (·.size) = some cs.length)) (hx : a.eval x = .pointer (some ⟨b, o, none⟩)) (hd : d.isRow = true)
    (hw : Region.wanted { dst := dst, op := Op.load t x, type := ty, pos := pos, after := af, guard := some gd } (yielded ops a.tmps) = true) (h : wpList P ops Q rest (a.put dst (.agg cs.toArray)) w) :
    wpList P ops Q ({ dst := dst, op := Op.load t x, type := ty, pos := pos, after := af, guard := some gd } :: rest) a w :=
  wpList_load_midG hw t x rfl b o hx cs d hc hu hd hi.out h
theorem wpList_mk0G {gd : Nat × Bool} {cells : Array Value} (hb : P.built t [] = some cells)  (hw : Region.wanted { dst := dst, op := Op.build t #[], type := ty, pos := pos, after := af, guard := some gd } (yielded ops a.tmps) = true) (h : wpList P ops Q rest (a.put dst (.agg cells)) w) :
    wpList P ops Q ({ dst := dst, op := Op.build t #[], type := ty, pos := pos, after := af, guard := some gd } :: rest) a w := by
  have hv : ((#[] : Array (Nat × Operand)).map fun (i, x) => (i, a.eval x)).toList = [] := by simp
  exact wpList_when hw fun _ hK => wp_build t _ rfl (by rw [hv, hb]; rfl) (hK _ _ (by rw [hv, hb]; exact h))
theorem wpList_mk1G {gd : Nat × Bool} {i0 : Nat} {x0 : Operand} {v0 : Value} {cells : Array Value} (hb : P.built t [(i0, v0)] = some cells) (h0 : a.eval x0 = v0) (hw : Region.wanted { dst := dst, op := Op.build t #[(i0, x0)], type := ty, pos := pos, after := af, guard := some gd } (yielded ops a.tmps) = true) (h : wpList P ops Q rest (a.put dst (.agg cells)) w) :
    wpList P ops Q ({ dst := dst, op := Op.build t #[(i0, x0)], type := ty, pos := pos, after := af, guard := some gd } :: rest) a w := by
  have hv : ((#[(i0, x0)] : Array (Nat × Operand)).map fun (i, x) => (i, a.eval x)).toList = [(i0, v0)] := by simp [h0]
  exact wpList_when hw fun _ hK => wp_build t _ rfl (by rw [hv, hb]; rfl) (hK _ _ (by rw [hv, hb]; exact h))
theorem wpList_mk2G {gd : Nat × Bool} {i0 i1 : Nat} {x0 x1 : Operand} {v0 v1 : Value} {cells : Array Value} (hb : P.built t [(i0, v0), (i1, v1)] = some cells) (h0 : a.eval x0 = v0) (h1 : a.eval x1 = v1) (hw : Region.wanted { dst := dst, op := Op.build t #[(i0, x0), (i1, x1)], type := ty, pos := pos, after := af, guard := some gd } (yielded ops a.tmps) = true) (h : wpList P ops Q rest (a.put dst (.agg cells)) w) :
    wpList P ops Q ({ dst := dst, op := Op.build t #[(i0, x0), (i1, x1)], type := ty, pos := pos, after := af, guard := some gd } :: rest) a w := by
  have hv : ((#[(i0, x0), (i1, x1)] : Array (Nat × Operand)).map fun (i, x) => (i, a.eval x)).toList = [(i0, v0), (i1, v1)] := by simp [h0, h1]
  exact wpList_when hw fun _ hK => wp_build t _ rfl (by rw [hv, hb]; rfl) (hK _ _ (by rw [hv, hb]; exact h))
/-- .. over a row as long -/
theorem wpList_sr0 {x y : Operand} (g : Nat) (cs : Array Value) (t0 : TypeId) (old : Array Value) (hi : Hid ((P.info? t).map (·.size) = some cs.size)) (h1 : Hid (cs.all (·.oneCell') = true))
    (hx : a.eval x = .pointer (some ⟨g, 0, none⟩)) (hy : a.eval y = .agg cs) (hg : w.heap[g]? = some (.cells old t0 (0, 0))) (ho : old.size = cs.size) (h : wpList P ops Q rest (a.put dst undef) (w.setRow g cs)) :
    wpList P ops Q ({ dst := dst, op := Op.store t x y, type := ty, pos := pos, after := af, guard := none } :: rest) a w :=
  wpList_store_row rfl t x y rfl g cs hx hy t0 old hg hi.out ho h1.out h
/-- a variable that is made and written at once -/
theorem wpList_var {x y : Operand} {dst2 : Option Tmp} {ty2 : TypeId} {pos2 : String} {af2 : Array Edge} (cs : Array Value) (z : Array Value) (hz : ∀ w : World, (zeroValue t).run P w = .ok (.agg z) w) (hi : Hid ((P.info? t).map (·.size) = some cs.size)) (ho : Hid (z.size = cs.size)) (h1 : Hid (cs.all (·.oneCell') = true))
    (hx : (a.put dst (.pointer (some ⟨w.heap.size, 0, none⟩))).eval x = .pointer (some ⟨w.heap.size, 0, none⟩)) (hy : (a.put dst (.pointer (some ⟨w.heap.size, 0, none⟩))).eval y = .agg cs)
    (h : ∀ w' : World, w'.heap[w.heap.size]? = some (.cells cs t (0, 0)) → Below w.heap.size w w' → wpList P ops Q rest ((a.put dst (.pointer (some ⟨w.heap.size, 0, none⟩))).put dst2 undef) w') :
    wpList P ops Q ({ dst := dst, op := Op.alloc t, type := ty, pos := pos, after := af, guard := none } :: { dst := dst2, op := Op.store t x y, type := ty2, pos := pos2, after := af2, guard := none } :: rest) a w := by
  refine wpList_plain rfl fun K hK => ?_
  have hr : (Instr.alloc t true (Value.tuple #[])).run P w = .ok (.pointer (some ⟨w.heap.size, 0, none⟩)) (w.alloc (.cells z t)) := by
    simp [Instr.alloc, newVar, newRow, hz, Value.cells]
  unfold Oper.wp execOp
  simp only [Sem.run_bind, hr, Result.andThen_ok, Sem.run_pure, Oper.upon_value]
  refine hK _ _ (wpList_sr w.heap.size cs t z hi ho h1 hx hy (heap_alloc_new w _) ?_)
  exact h _ (laid w z cs t).1 (laid w z cs t).2
end
end Go.Proofs.YtnophelfpoldfaaGreatDoor

/- A disk's Write. -/
namespace Go.Proofs.YtnophelfpoldfaaGreatDoor
open Go.RowKit

def zW : Array Value := #[.int .i64 0, .slice none 0 0]
theorem tyWs : SliceTy Tryz.prog 55 139 2 32 (.agg zW) := .mk' Tryz.underlying55 (by kernel_rfl) (by decide) (by decide)
theorem bltW (n : Int) (a : Option Addr) (k c : Nat) : Tryz.prog.built 139 [(0, .int .i64 n), (1, .slice a k c)] = some #[.int .i64 n, .slice a k c] := by kernel_rfl
theorem run_bldW {P : Program} {w : World} {o : Oper} {ev : Operand → Value} {t : TypeId} {i0 i1 : Nat} {x0 x1 : Operand} {v0 v1 : Value} {cells : Array Value} (ho : o.op = .build t #[(i0, x0), (i1, x1)]) (h0 : ev x0 = v0) (h1 : ev x1 = v1) (hb : P.built t [(i0, v0), (i1, v1)] = some cells) : (execOp ev o).run P w = .ok (.value (.agg cells)) w :=
  run_buildN ho (by simpa [h0, h1] using hb)
theorem NoBy.keep {S : Nat → Prop} {w w' : World} {i : Nat} (h : NoBy w i) (k : Keep S w w') (hi : i < w.heap.size) (hn : ¬ S i) : NoBy w' i := fun cur hc => h cur (by rw [← k.block i hi hn]; exact hc)
theorem NoBy.below {w w' : World} {i : Nat} (h : NoBy w i) (b : Below w.heap.size w w') (hi : i < w.heap.size) : NoBy w' i := h.keep (Keep.of (S := fun _ => False) b) hi (fun h => h)
theorem own_ne {w : World} {A B : Nat} {e f : TypeId} {s t n m : Nat} {u v : Value} {xs ys : List Value} (h : w.ownsRow A e s u n xs) (k : w.ownsRow B f t v m ys) (hef : e ≠ f) {g : Nat} (hg : u.ownBlock = some g) (hk : v.ownBlock = some g) : False := by
  rcases h.2 with ⟨hv, _⟩ | ⟨g1, cap, cu, hv, _, h1, _⟩
  · subst hv; cases hg
  rcases k.2 with ⟨hv2, _⟩ | ⟨g2, cap2, cu2, hv2, _, h2, _⟩
  · subst hv2; cases hk
  subst hv hv2
  cases hg
  cases hk
  rw [h1] at h2
  simp only [Option.some.injEq, Obj.cells.injEq] at h2
  exact hef h2.2.1
theorem DiskAt.noByQ {w : World} {db B : Nat} {sv qv : Value} {C : List (List Nat)} {Q : List QE} (h : DiskAt w db B sv qv C Q) {g : Nat} (hg : qv.ownBlock = some g) : NoBy w g := own_noBy h.queue (by decide) hg
theorem DiskAt.noByS {w : World} {db B : Nat} {sv qv : Value} {C : List (List Nat)} {Q : List QE} (h : DiskAt w db B sv qv C Q) {g : Nat} (hg : sv.ownBlock = some g) : NoBy w g := by
  obtain ⟨vs, ho, _⟩ := h.sure
  exact own_noBy ho (by decide) hg
structure Wrote (w : World) (db B : Nat) (sv qv : Value) (C : List (List Nat)) (Q : List QE) (pos : Nat) (bs : List Nat) (e : Ending) (w' : World) : Prop where
  ret : e = .returned (.int .i64 0)
  dsk : ∃ qv' v', DiskAt w' db B sv qv' C (Q ++ [⟨pos, v', bs⟩]) ∧ (qv'.ownBlock = qv.ownBlock ∨ ∀ g, qv'.ownBlock = some g → w.heap.size ≤ g)
  keep : Keep (fun i => i = db ∨ qv.ownBlock = some i) w w'
set_option maxRecDepth 100000 in
set_option maxHeartbeats 8000000 in
theorem dwrite_walk {w : World} {db B : Nat} {sv qv : Value} {C : List (List Nat)} {Q : List QE} (h : DiskAt w db B sv qv C Q) (pos : Nat) (hp : pos < C.length) (a : Option Addr) (c : Nat) (bs : List Nat) (hb : Sl .u8 w a 64 c bs) (hb' : ∀ d ∈ bs, d < 256) (hQ : Q.length < 4294967296) :
    Calls Tryz.prog 44 #[.pointer (some ⟨db, 0, none⟩), .int .i64 (pos : Int), .slice a 64 c] w (Wrote w db B sv qv C Q pos bs) := by
  have H := hid h
  have HP := hid hp
  have SL := hid hb
  have HB := hid hb'
  have HQ := hid hQ
  have c0 := h.c0
  have c3 := h.c3
  have d1 := h.c1
  obtain ⟨sa, sc, rfl⟩ := h.sv_eq
  have few := h.few
  have t1 : decide ((pos : Int) < 0) = false := decide_eq_false (by omega)
  have t2 : decide ((pos : Int) ≥ (C.length : Int)) = false := decide_eq_false (by omega)
  have t3 : decide ((C.length : Int) ≤ (pos : Int)) = false := decide_eq_false (by omega)
  have t4 : decide (C.length ≤ pos) = false := decide_eq_false (by omega)
  have CW := fun (wx : World) (hx : Sl .u8 wx a 64 c bs) => hid (clone8_walk a 64 c bs wx hx (by decide))
  have unW := Tryz.underlying55
  have infoW : (Tryz.prog.info? 139).map (·.size) = some 2 := by kernel_rfl
  have hziW : ((Tryz.prog.info? 139).bind (·.zero)).isSome = true := by kernel_rfl
  clear h hb hb' hQ hp
  go_enter Tryz.func44, Tryz.ntmps44
  go_upto_region 3 with (fail)
  go_wp2_with (fail)
  refine (dstep_walk H.out).mono ?_
  rintro e w1 ⟨rfl, rfl⟩
  clear t1 t2 t3 t4 c0 few
  go_upto_region 6 with (fail)
  have BWd := fun (wx : World) (hx : Below w.drew.heap.size w.drew wx) => hid (show Below w.heap.size w wx from (Below.refl _ _).drew.trans hx)
  refine wp_region_held_drew (S := fun _ => True) (by kernel_rfl) (trivial) (fun hHeld => ?_)
  try simp only [List.size_toArray, List.length_cons, List.length_nil, Nat.reduceAdd, Array.replicate_succ, Array.replicate_zero, List.push_toArray, List.nil_append, List.cons_append]
  refine wpAnyH_take (i := 0) (oi := { dst := some 40, op := Op.move (Operand.tmp 0), type := 24, pos := "disk.go:65", after := #[], guard := none }) (v := ?v1001) rfl (by kernel_rfl) (by kernel_rfl) (by kernel_rfl) (fun _ _ _ h => h) (Or.inl ⟨by rfl, ?hy1001⟩) hHeld ?_
  case hy1001 => (intro w hSw; (try dsimp only at hSw); go_simp; (try with_reducible rfl))
  (try simp only [Act.put, List.setIfInBounds_toArray, List.set_cons_zero, List.set_cons_succ])
  refine wpAnyH_take (i := 1) (oi := { dst := some 41, op := Op.move (Operand.tmp 0), type := 24, pos := "disk.go:65", after := #[], guard := none }) (v := ?v1002) rfl (by kernel_rfl) (by kernel_rfl) (by kernel_rfl) (fun _ _ _ h => h) (Or.inl ⟨by rfl, ?hy1002⟩) hHeld ?_
  case hy1002 => (intro w hSw; (try dsimp only at hSw); go_simp; (try with_reducible rfl))
  (try simp only [Act.put, List.setIfInBounds_toArray, List.set_cons_zero, List.set_cons_succ])
  refine wpAnyH_take (i := 2) (oi := { dst := some 42, op := Op.nilCheck (Operand.tmp 41), type := 0, pos := "disk.go:65", after := #[{ on := 1, ground := Ground.data }], guard := none }) (v := ?v1003) rfl (by kernel_rfl) (by kernel_rfl) (by kernel_rfl) (fun _ _ _ h => h) (Or.inl ⟨by rfl, ?hy1003⟩) hHeld ?_
  case hy1003 => (intro w hSw; (try dsimp only at hSw); go_simp; (try with_reducible rfl))
  (try simp only [Act.put, List.setIfInBounds_toArray, List.set_cons_zero, List.set_cons_succ])
  refine wpAnyH_take (i := 3) (oi := { dst := some 43, op := Op.fieldAddr 57 (Operand.tmp 42) 1, type := 0, pos := "disk.go:65", after := #[{ on := 2, ground := Ground.data }], guard := none }) (v := ?v1004) rfl (by kernel_rfl) (by kernel_rfl) (by kernel_rfl) (fun _ _ _ h => h) (Or.inl ⟨by rfl, ?hy1004⟩) hHeld ?_
  case hy1004 => (intro w hSw; (try dsimp only at hSw); go_simp; (try with_reducible rfl))
  (try simp only [Act.put, List.setIfInBounds_toArray, List.set_cons_zero, List.set_cons_succ])
  refine wpAnyH_take (i := 5) (oi := { dst := some 45, op := Op.move (Operand.tmp 1), type := 3, pos := "disk.go:65", after := #[], guard := none }) (v := ?v1005) rfl (by kernel_rfl) (by kernel_rfl) (by kernel_rfl) (fun _ _ _ h => h) (Or.inl ⟨by rfl, ?hy1005⟩) hHeld ?_
  case hy1005 => (intro w hSw; (try dsimp only at hSw); go_simp; (try with_reducible rfl))
  (try simp only [Act.put, List.setIfInBounds_toArray, List.set_cons_zero, List.set_cons_succ])
  refine wpAnyH_take (i := 6) (oi := { dst := some 46, op := Op.move (Operand.tmp 2), type := 22, pos := "disk.go:65", after := #[], guard := none }) (v := ?v1006) rfl (by kernel_rfl) (by kernel_rfl) (by kernel_rfl) (fun _ _ _ h => h) (Or.inl ⟨by rfl, ?hy1006⟩) hHeld ?_
  case hy1006 => (intro w hSw; (try dsimp only at hSw); go_simp; (try with_reducible rfl))
  (try simp only [Act.put, List.setIfInBounds_toArray, List.set_cons_zero, List.set_cons_succ])
  refine wpAnyH_ready (rs := [4, 7]) (by kernel_rfl) (by simp) ?_
  refine AllReadyH.cons (o := { dst := some 44, op := Op.load 55 (Operand.tmp 43), type := 55, pos := "disk.go:65", after := #[{ on := 3, ground := Ground.data }], guard := none }) rfl (fun K hK => ?_) ?_
  have e0 : w.drew.cell? ⟨db, 1, none⟩ = some qv := d1; first | (have c9 := cell_keep BL.out (cell_keep BC.out e0); go_simp) | (have c9 := cell_keep BC.out e0; go_simp) | go_simp
  refine hK.out _ _ (trivial) (fun hHeld => ?_)
  clear hK K
  (try simp only [List.setIfInBounds_toArray, List.set_cons_zero, List.set_cons_succ])
  refine wpAnyH_ready (rs := [7]) (by kernel_rfl) (by simp) ?_
  refine AllReadyH.cons (o := { dst := some 47, op := Op.call { callee := Callee.value (Operand.func 29), args := #[Operand.tmp 46], argTypes := #[22] }, type := 22, pos := "disk.go:65", after := #[{ on := 6, ground := Ground.data }], guard := none }) rfl (fun K hK => ?_) ?_
  go_simp; refine (CW w.drew (SL.out.below (Below.refl _ _).drew)).out.mono ?_; rintro e w5 ⟨v5, rfl, o5, b5⟩; obtain ⟨a5, c5, rfl, _⟩ := Rd.of_owns o5; have O5 := hid o5; have BC := hid b5; clear o5 b5
  refine hK.out _ _ (trivial) (fun hHeld => ?_)
  clear hK K
  (try simp only [List.setIfInBounds_toArray, List.set_cons_zero, List.set_cons_succ])
  refine wpAnyH_take (i := 8) (oi := { dst := some 48, op := Op.build 139 #[(0, Operand.tmp 45), (1, Operand.tmp 47)], type := 139, pos := "disk.go:65", after := #[{ on := 5, ground := Ground.data }, { on := 7, ground := Ground.data }], guard := none }) (v := (.agg #[.int .i64 (pos : Int), .slice a5 bs.length c5])) rfl (by kernel_rfl) (by kernel_rfl) (by kernel_rfl) (fun _ _ _ h => h) (Or.inl ⟨by rfl, fun w _ => run_bldW rfl rfl rfl (bltW _ _ _ _)⟩) hHeld ?_
  (try simp only [Act.put, List.setIfInBounds_toArray, List.set_cons_zero, List.set_cons_succ])
  refine wpAnyH_ready (rs := [9]) (by kernel_rfl) (by simp) ?_
  refine AllReadyH.cons (o := { dst := some 49, op := Op.buildSlice 55 1 #[(0, Operand.tmp 48)], type := 55, pos := "disk.go:65", after := #[{ on := 8, ground := Ground.data }], guard := none }) rfl (fun K hK => ?_) ?_
  rw [if_pos (by rfl)]; refine wp_lit1 _ _ _ rfl (cells := #[.int .i64 (pos : Int), .slice a5 bs.length c5]) rfl unW infoW hziW rfl (by decide) (by decide) ?_; (first | refine newZ ?_ | refine newZd ?_); intro wl hl bl; have HLt := hid hl; have BL := hid bl; clear hl bl
  refine hK.out _ _ (trivial) (fun hHeld => ?_)
  clear hK K
  (try simp only [List.setIfInBounds_toArray, List.set_cons_zero, List.set_cons_succ])
  refine wpAnyH_ready (rs := [10]) (by kernel_rfl) (by simp) ?_
  refine AllReadyH.cons (o := { dst := some 50, op := Op.call { callee := Callee.builtin Builtin.append, args := #[Operand.tmp 44, Operand.tmp 49], argTypes := #[55, 55] }, type := 55, pos := "disk.go:65", after := #[{ on := 4, ground := Ground.data }, { on := 9, ground := Ground.data }, { on := 7, ground := Ground.chain }], guard := none }) rfl (fun K hK => ?_) ?_
  rw [if_pos (by rfl)]; refine wp_pushK _ _ _ rfl tyWs B (own_below H.out.queue (BWd wl (BC.out.trans (BL.out.mono BC.out.size))).out) rfl rfl HLt.out rfl (by intro u hu; simp only [List.mem_cons, List.not_mem_nil, or_false] at hu; rcases hu with rfl | rfl <;> rfl) HQ.out (by decide) (Nat.le_trans H.out.lt.2 (BWd wl (BC.out.trans (BL.out.mono BC.out.size))).out.size) ?_; intro v6 w6 own6 k6 nb6; have O6 := hid own6; have K6 := hid k6; have N6 := hid nb6; clear own6 k6 nb6
  refine hK.out _ _ (trivial) (fun hHeld => ?_)
  clear hK K
  (try simp only [List.setIfInBounds_toArray, List.set_cons_zero, List.set_cons_succ])
  refine wpAnyH_take (i := 11) (oi := { dst := some 51, op := Op.nilCheck (Operand.tmp 40), type := 0, pos := "disk.go:65", after := #[{ on := 0, ground := Ground.data }, { on := 0, ground := Ground.phase }, { on := 1, ground := Ground.phase }, { on := 2, ground := Ground.phase }, { on := 3, ground := Ground.phase }, { on := 4, ground := Ground.phase }, { on := 5, ground := Ground.phase }, { on := 6, ground := Ground.phase }, { on := 7, ground := Ground.phase }, { on := 8, ground := Ground.phase }, { on := 9, ground := Ground.phase }, { on := 10, ground := Ground.phase }], guard := none }) (v := ?v1007) rfl (by kernel_rfl) (by kernel_rfl) (by kernel_rfl) (fun _ _ _ h => h) (Or.inl ⟨by rfl, ?hy1007⟩) hHeld ?_
  case hy1007 => (intro w hSw; (try dsimp only at hSw); go_simp; (try with_reducible rfl))
  (try simp only [Act.put, List.setIfInBounds_toArray, List.set_cons_zero, List.set_cons_succ])
  refine wpAnyH_take (i := 12) (oi := { dst := some 52, op := Op.fieldAddr 57 (Operand.tmp 51) 1, type := 0, pos := "disk.go:65", after := #[{ on := 11, ground := Ground.data }, { on := 0, ground := Ground.phase }, { on := 1, ground := Ground.phase }, { on := 2, ground := Ground.phase }, { on := 3, ground := Ground.phase }, { on := 4, ground := Ground.phase }, { on := 5, ground := Ground.phase }, { on := 6, ground := Ground.phase }, { on := 7, ground := Ground.phase }, { on := 8, ground := Ground.phase }, { on := 9, ground := Ground.phase }, { on := 10, ground := Ground.phase }], guard := none }) (v := ?v1008) rfl (by kernel_rfl) (by kernel_rfl) (by kernel_rfl) (fun _ _ _ h => h) (Or.inl ⟨by rfl, ?hy1008⟩) hHeld ?_
  case hy1008 => (intro w hSw; (try dsimp only at hSw); go_simp; (try with_reducible rfl))
  (try simp only [Act.put, List.setIfInBounds_toArray, List.set_cons_zero, List.set_cons_succ])
  refine wpAnyH_ready (rs := [13]) (by kernel_rfl) (by simp) ?_
  refine AllReadyH.cons (o := { dst := none, op := Op.store 55 (Operand.tmp 52) (Operand.tmp 50), type := 0, pos := "disk.go:65", after := #[{ on := 12, ground := Ground.data }, { on := 10, ground := Ground.data }, { on := 10, ground := Ground.chain }, { on := 0, ground := Ground.phase }, { on := 1, ground := Ground.phase }, { on := 2, ground := Ground.phase }, { on := 3, ground := Ground.phase }, { on := 4, ground := Ground.phase }, { on := 5, ground := Ground.phase }, { on := 6, ground := Ground.phase }, { on := 7, ground := Ground.phase }, { on := 8, ground := Ground.phase }, { on := 9, ground := Ground.phase }, { on := 10, ground := Ground.phase }], guard := none }) rfl (fun K hK => ?_) ?_
  have hC5 := K6.out.heap (heap_keep H.out.cell (BWd wl (BC.out.trans (BL.out.mono BC.out.size))).out) (fun e => by have := (H.out.queue.lt _ e).1; have := H.out.lt.1; omega); have c9 : w6.cell? ⟨db, 1, none⟩ = some qv := gen_cell (j := 1) (row_range (L := [.slice sa C.length sc, qv, .int .i64 0, .bool false]) hC5) rfl; have z9 : w6.frozen? ⟨db, 1, none⟩ = false := frozen_of_row _ _ _ _ _ hC5; obtain ⟨a6, c6, rfl, _⟩ := Rd.of_owns O6.out; go_simp; refine setW (L := [.slice sa C.length sc, qv, .int .i64 0, .bool false]) hC5 ?_; intro w7 h7 f7; have H7 := hid h7; have F7 := hid f7; clear h7 f7 hC5 c9 z9
  refine hK.out _ _ (trivial) (fun hHeld => ?_)
  clear hK K
  (try simp only [List.setIfInBounds_toArray, List.set_cons_zero, List.set_cons_succ])
  refine wpAnyH_done (by kernel_rfl) ?_ _
  rotate_left
  exact AllReadyH.nil
  exact AllReadyH.nil
  exact AllReadyH.nil
  exact AllReadyH.nil
  refine AllReadyH.cons (o := { dst := some 47, op := Op.call { callee := Callee.value (Operand.func 29), args := #[Operand.tmp 46], argTypes := #[22] }, type := 22, pos := "disk.go:65", after := #[{ on := 6, ground := Ground.data }], guard := none }) rfl (fun K hK => ?_) ?_
  go_simp; refine (CW w.drew (SL.out.below (Below.refl _ _).drew)).out.mono ?_; rintro e w5 ⟨v5, rfl, o5, b5⟩; obtain ⟨a5, c5, rfl, _⟩ := Rd.of_owns o5; have O5 := hid o5; have BC := hid b5; clear o5 b5
  refine hK.out _ _ (trivial) (fun hHeld => ?_)
  clear hK K
  (try simp only [List.setIfInBounds_toArray, List.set_cons_zero, List.set_cons_succ])
  refine wpAnyH_take (i := 8) (oi := { dst := some 48, op := Op.build 139 #[(0, Operand.tmp 45), (1, Operand.tmp 47)], type := 139, pos := "disk.go:65", after := #[{ on := 5, ground := Ground.data }, { on := 7, ground := Ground.data }], guard := none }) (v := (.agg #[.int .i64 (pos : Int), .slice a5 bs.length c5])) rfl (by kernel_rfl) (by kernel_rfl) (by kernel_rfl) (fun _ _ _ h => h) (Or.inl ⟨by rfl, fun w _ => run_bldW rfl rfl rfl (bltW _ _ _ _)⟩) hHeld ?_
  (try simp only [Act.put, List.setIfInBounds_toArray, List.set_cons_zero, List.set_cons_succ])
  refine wpAnyH_ready (rs := [4, 9]) (by kernel_rfl) (by simp) ?_
  refine AllReadyH.cons (o := { dst := some 44, op := Op.load 55 (Operand.tmp 43), type := 55, pos := "disk.go:65", after := #[{ on := 3, ground := Ground.data }], guard := none }) rfl (fun K hK => ?_) ?_
  have e0 : w.drew.cell? ⟨db, 1, none⟩ = some qv := d1; first | (have c9 := cell_keep BL.out (cell_keep BC.out e0); go_simp) | (have c9 := cell_keep BC.out e0; go_simp) | go_simp
  refine hK.out _ _ (trivial) (fun hHeld => ?_)
  clear hK K
  (try simp only [List.setIfInBounds_toArray, List.set_cons_zero, List.set_cons_succ])
  refine wpAnyH_ready (rs := [9]) (by kernel_rfl) (by simp) ?_
  refine AllReadyH.cons (o := { dst := some 49, op := Op.buildSlice 55 1 #[(0, Operand.tmp 48)], type := 55, pos := "disk.go:65", after := #[{ on := 8, ground := Ground.data }], guard := none }) rfl (fun K hK => ?_) ?_
  rw [if_pos (by rfl)]; refine wp_lit1 _ _ _ rfl (cells := #[.int .i64 (pos : Int), .slice a5 bs.length c5]) rfl unW infoW hziW rfl (by decide) (by decide) ?_; (first | refine newZ ?_ | refine newZd ?_); intro wl hl bl; have HLt := hid hl; have BL := hid bl; clear hl bl
  refine hK.out _ _ (trivial) (fun hHeld => ?_)
  clear hK K
  (try simp only [List.setIfInBounds_toArray, List.set_cons_zero, List.set_cons_succ])
  refine wpAnyH_ready (rs := [10]) (by kernel_rfl) (by simp) ?_
  refine AllReadyH.cons (o := { dst := some 50, op := Op.call { callee := Callee.builtin Builtin.append, args := #[Operand.tmp 44, Operand.tmp 49], argTypes := #[55, 55] }, type := 55, pos := "disk.go:65", after := #[{ on := 4, ground := Ground.data }, { on := 9, ground := Ground.data }, { on := 7, ground := Ground.chain }], guard := none }) rfl (fun K hK => ?_) ?_
  rw [if_pos (by rfl)]; refine wp_pushK _ _ _ rfl tyWs B (own_below H.out.queue (BWd wl (BC.out.trans (BL.out.mono BC.out.size))).out) rfl rfl HLt.out rfl (by intro u hu; simp only [List.mem_cons, List.not_mem_nil, or_false] at hu; rcases hu with rfl | rfl <;> rfl) HQ.out (by decide) (Nat.le_trans H.out.lt.2 (BWd wl (BC.out.trans (BL.out.mono BC.out.size))).out.size) ?_; intro v6 w6 own6 k6 nb6; have O6 := hid own6; have K6 := hid k6; have N6 := hid nb6; clear own6 k6 nb6
  refine hK.out _ _ (trivial) (fun hHeld => ?_)
  clear hK K
  (try simp only [List.setIfInBounds_toArray, List.set_cons_zero, List.set_cons_succ])
  refine wpAnyH_take (i := 11) (oi := { dst := some 51, op := Op.nilCheck (Operand.tmp 40), type := 0, pos := "disk.go:65", after := #[{ on := 0, ground := Ground.data }, { on := 0, ground := Ground.phase }, { on := 1, ground := Ground.phase }, { on := 2, ground := Ground.phase }, { on := 3, ground := Ground.phase }, { on := 4, ground := Ground.phase }, { on := 5, ground := Ground.phase }, { on := 6, ground := Ground.phase }, { on := 7, ground := Ground.phase }, { on := 8, ground := Ground.phase }, { on := 9, ground := Ground.phase }, { on := 10, ground := Ground.phase }], guard := none }) (v := ?v1009) rfl (by kernel_rfl) (by kernel_rfl) (by kernel_rfl) (fun _ _ _ h => h) (Or.inl ⟨by rfl, ?hy1009⟩) hHeld ?_
  case hy1009 => (intro w hSw; (try dsimp only at hSw); go_simp; (try with_reducible rfl))
  (try simp only [Act.put, List.setIfInBounds_toArray, List.set_cons_zero, List.set_cons_succ])
  refine wpAnyH_take (i := 12) (oi := { dst := some 52, op := Op.fieldAddr 57 (Operand.tmp 51) 1, type := 0, pos := "disk.go:65", after := #[{ on := 11, ground := Ground.data }, { on := 0, ground := Ground.phase }, { on := 1, ground := Ground.phase }, { on := 2, ground := Ground.phase }, { on := 3, ground := Ground.phase }, { on := 4, ground := Ground.phase }, { on := 5, ground := Ground.phase }, { on := 6, ground := Ground.phase }, { on := 7, ground := Ground.phase }, { on := 8, ground := Ground.phase }, { on := 9, ground := Ground.phase }, { on := 10, ground := Ground.phase }], guard := none }) (v := ?v1010) rfl (by kernel_rfl) (by kernel_rfl) (by kernel_rfl) (fun _ _ _ h => h) (Or.inl ⟨by rfl, ?hy1010⟩) hHeld ?_
  case hy1010 => (intro w hSw; (try dsimp only at hSw); go_simp; (try with_reducible rfl))
  (try simp only [Act.put, List.setIfInBounds_toArray, List.set_cons_zero, List.set_cons_succ])
  refine wpAnyH_ready (rs := [13]) (by kernel_rfl) (by simp) ?_
  refine AllReadyH.cons (o := { dst := none, op := Op.store 55 (Operand.tmp 52) (Operand.tmp 50), type := 0, pos := "disk.go:65", after := #[{ on := 12, ground := Ground.data }, { on := 10, ground := Ground.data }, { on := 10, ground := Ground.chain }, { on := 0, ground := Ground.phase }, { on := 1, ground := Ground.phase }, { on := 2, ground := Ground.phase }, { on := 3, ground := Ground.phase }, { on := 4, ground := Ground.phase }, { on := 5, ground := Ground.phase }, { on := 6, ground := Ground.phase }, { on := 7, ground := Ground.phase }, { on := 8, ground := Ground.phase }, { on := 9, ground := Ground.phase }, { on := 10, ground := Ground.phase }], guard := none }) rfl (fun K hK => ?_) ?_
  have hC5 := K6.out.heap (heap_keep H.out.cell (BWd wl (BC.out.trans (BL.out.mono BC.out.size))).out) (fun e => by have := (H.out.queue.lt _ e).1; have := H.out.lt.1; omega); have c9 : w6.cell? ⟨db, 1, none⟩ = some qv := gen_cell (j := 1) (row_range (L := [.slice sa C.length sc, qv, .int .i64 0, .bool false]) hC5) rfl; have z9 : w6.frozen? ⟨db, 1, none⟩ = false := frozen_of_row _ _ _ _ _ hC5; obtain ⟨a6, c6, rfl, _⟩ := Rd.of_owns O6.out; go_simp; refine setW (L := [.slice sa C.length sc, qv, .int .i64 0, .bool false]) hC5 ?_; intro w7 h7 f7; have H7 := hid h7; have F7 := hid f7; clear h7 f7 hC5 c9 z9
  refine hK.out _ _ (trivial) (fun hHeld => ?_)
  clear hK K
  (try simp only [List.setIfInBounds_toArray, List.set_cons_zero, List.set_cons_succ])
  refine wpAnyH_done (by kernel_rfl) ?_ _
  rotate_left
  exact AllReadyH.nil
  exact AllReadyH.nil
  exact AllReadyH.nil
  refine AllReadyH.cons (o := { dst := some 49, op := Op.buildSlice 55 1 #[(0, Operand.tmp 48)], type := 55, pos := "disk.go:65", after := #[{ on := 8, ground := Ground.data }], guard := none }) rfl (fun K hK => ?_) ?_
  rw [if_pos (by rfl)]; refine wp_lit1 _ _ _ rfl (cells := #[.int .i64 (pos : Int), .slice a5 bs.length c5]) rfl unW infoW hziW rfl (by decide) (by decide) ?_; (first | refine newZ ?_ | refine newZd ?_); intro wl hl bl; have HLt := hid hl; have BL := hid bl; clear hl bl
  refine hK.out _ _ (trivial) (fun hHeld => ?_)
  clear hK K
  (try simp only [List.setIfInBounds_toArray, List.set_cons_zero, List.set_cons_succ])
  refine wpAnyH_ready (rs := [4]) (by kernel_rfl) (by simp) ?_
  refine AllReadyH.cons (o := { dst := some 44, op := Op.load 55 (Operand.tmp 43), type := 55, pos := "disk.go:65", after := #[{ on := 3, ground := Ground.data }], guard := none }) rfl (fun K hK => ?_) ?_
  have e0 : w.drew.cell? ⟨db, 1, none⟩ = some qv := d1; first | (have c9 := cell_keep BL.out (cell_keep BC.out e0); go_simp) | (have c9 := cell_keep BC.out e0; go_simp) | go_simp
  refine hK.out _ _ (trivial) (fun hHeld => ?_)
  clear hK K
  (try simp only [List.setIfInBounds_toArray, List.set_cons_zero, List.set_cons_succ])
  refine wpAnyH_ready (rs := [10]) (by kernel_rfl) (by simp) ?_
  refine AllReadyH.cons (o := { dst := some 50, op := Op.call { callee := Callee.builtin Builtin.append, args := #[Operand.tmp 44, Operand.tmp 49], argTypes := #[55, 55] }, type := 55, pos := "disk.go:65", after := #[{ on := 4, ground := Ground.data }, { on := 9, ground := Ground.data }, { on := 7, ground := Ground.chain }], guard := none }) rfl (fun K hK => ?_) ?_
  rw [if_pos (by rfl)]; refine wp_pushK _ _ _ rfl tyWs B (own_below H.out.queue (BWd wl (BC.out.trans (BL.out.mono BC.out.size))).out) rfl rfl HLt.out rfl (by intro u hu; simp only [List.mem_cons, List.not_mem_nil, or_false] at hu; rcases hu with rfl | rfl <;> rfl) HQ.out (by decide) (Nat.le_trans H.out.lt.2 (BWd wl (BC.out.trans (BL.out.mono BC.out.size))).out.size) ?_; intro v6 w6 own6 k6 nb6; have O6 := hid own6; have K6 := hid k6; have N6 := hid nb6; clear own6 k6 nb6
  refine hK.out _ _ (trivial) (fun hHeld => ?_)
  clear hK K
  (try simp only [List.setIfInBounds_toArray, List.set_cons_zero, List.set_cons_succ])
  refine wpAnyH_take (i := 11) (oi := { dst := some 51, op := Op.nilCheck (Operand.tmp 40), type := 0, pos := "disk.go:65", after := #[{ on := 0, ground := Ground.data }, { on := 0, ground := Ground.phase }, { on := 1, ground := Ground.phase }, { on := 2, ground := Ground.phase }, { on := 3, ground := Ground.phase }, { on := 4, ground := Ground.phase }, { on := 5, ground := Ground.phase }, { on := 6, ground := Ground.phase }, { on := 7, ground := Ground.phase }, { on := 8, ground := Ground.phase }, { on := 9, ground := Ground.phase }, { on := 10, ground := Ground.phase }], guard := none }) (v := ?v1011) rfl (by kernel_rfl) (by kernel_rfl) (by kernel_rfl) (fun _ _ _ h => h) (Or.inl ⟨by rfl, ?hy1011⟩) hHeld ?_
  case hy1011 => (intro w hSw; (try dsimp only at hSw); go_simp; (try with_reducible rfl))
  (try simp only [Act.put, List.setIfInBounds_toArray, List.set_cons_zero, List.set_cons_succ])
  refine wpAnyH_take (i := 12) (oi := { dst := some 52, op := Op.fieldAddr 57 (Operand.tmp 51) 1, type := 0, pos := "disk.go:65", after := #[{ on := 11, ground := Ground.data }, { on := 0, ground := Ground.phase }, { on := 1, ground := Ground.phase }, { on := 2, ground := Ground.phase }, { on := 3, ground := Ground.phase }, { on := 4, ground := Ground.phase }, { on := 5, ground := Ground.phase }, { on := 6, ground := Ground.phase }, { on := 7, ground := Ground.phase }, { on := 8, ground := Ground.phase }, { on := 9, ground := Ground.phase }, { on := 10, ground := Ground.phase }], guard := none }) (v := ?v1012) rfl (by kernel_rfl) (by kernel_rfl) (by kernel_rfl) (fun _ _ _ h => h) (Or.inl ⟨by rfl, ?hy1012⟩) hHeld ?_
  case hy1012 => (intro w hSw; (try dsimp only at hSw); go_simp; (try with_reducible rfl))
  (try simp only [Act.put, List.setIfInBounds_toArray, List.set_cons_zero, List.set_cons_succ])
  refine wpAnyH_ready (rs := [13]) (by kernel_rfl) (by simp) ?_
  refine AllReadyH.cons (o := { dst := none, op := Op.store 55 (Operand.tmp 52) (Operand.tmp 50), type := 0, pos := "disk.go:65", after := #[{ on := 12, ground := Ground.data }, { on := 10, ground := Ground.data }, { on := 10, ground := Ground.chain }, { on := 0, ground := Ground.phase }, { on := 1, ground := Ground.phase }, { on := 2, ground := Ground.phase }, { on := 3, ground := Ground.phase }, { on := 4, ground := Ground.phase }, { on := 5, ground := Ground.phase }, { on := 6, ground := Ground.phase }, { on := 7, ground := Ground.phase }, { on := 8, ground := Ground.phase }, { on := 9, ground := Ground.phase }, { on := 10, ground := Ground.phase }], guard := none }) rfl (fun K hK => ?_) ?_
  have hC5 := K6.out.heap (heap_keep H.out.cell (BWd wl (BC.out.trans (BL.out.mono BC.out.size))).out) (fun e => by have := (H.out.queue.lt _ e).1; have := H.out.lt.1; omega); have c9 : w6.cell? ⟨db, 1, none⟩ = some qv := gen_cell (j := 1) (row_range (L := [.slice sa C.length sc, qv, .int .i64 0, .bool false]) hC5) rfl; have z9 : w6.frozen? ⟨db, 1, none⟩ = false := frozen_of_row _ _ _ _ _ hC5; obtain ⟨a6, c6, rfl, _⟩ := Rd.of_owns O6.out; go_simp; refine setW (L := [.slice sa C.length sc, qv, .int .i64 0, .bool false]) hC5 ?_; intro w7 h7 f7; have H7 := hid h7; have F7 := hid f7; clear h7 f7 hC5 c9 z9
  refine hK.out _ _ (trivial) (fun hHeld => ?_)
  clear hK K
  (try simp only [List.setIfInBounds_toArray, List.set_cons_zero, List.set_cons_succ])
  refine wpAnyH_done (by kernel_rfl) ?_ _
  rotate_left
  exact AllReadyH.nil
  exact AllReadyH.nil
  exact AllReadyH.nil
  exact AllReadyH.nil
  exact AllReadyH.nil
  all_goals
    have bl := BWd wl (BC.out.trans (BL.out.mono BC.out.size))
    have KK := hid (show Keep (fun i => i = db ∨ qv.ownBlock = some i) w w7 from ((Keep.of bl.out).trans (K6.out.mono (fun i hi => .inr hi))).trans (Keep.far F7.out (.inl rfl)))
    have H7' := H7.out.out
    have c3' : w7.cell? ⟨db, 3, none⟩ = some (.bool false) := gen_cell (j := 3) (row_range (L := [.slice sa C.length sc, .slice a6 (Q.length + 1) c6, .int .i64 0, .bool false]) H7') rfl
    clear d1 CW
    go_wp2_with (fail)
    go_ret
    have nq : ∀ g, qv.ownBlock = some g → B ≤ g := fun g hg => (H.out.queue.lt g hg).1
    have dl := H.out.lt.1
    refine ⟨rfl, ⟨_, .slice a5 bs.length c5, ⟨H7', ?_, ?_, ?_, H.out.few, dl, Nat.le_trans H.out.lt.2 KK.out.size⟩, ?_⟩, KK.out⟩
    · obtain ⟨vs, ho, hv⟩ := H.out.sure
      refine ⟨vs, KK.out.own ho (fun g hg e => ?_), hv.keep KK.out (fun i hi e => ?_)⟩
      · rcases e with e | e
        · have := (ho.lt g hg).1; omega
        · exact own_ne ho H.out.queue (by decide) hg e
      · rcases e with rfl | e
        · exact H.out.noBy
        · exact H.out.noByQ e
    · have o := Far.own O6.out F7.out (fun e => by have := (O6.out.lt _ e).1; omega)
      rw [List.flatMap_append, List.length_append]
      exact o
    · intro e he
      rcases List.mem_append.1 he with he | he
      · exact (H.out.qok e he).keep KK.out (fun i hi e => by
          rcases e with rfl | e
          · exact H.out.noBy
          · exact H.out.noByQ e)
      · rw [List.mem_singleton.1 he]
        have by5 := ByA.own O5.out HB.out
        refine ⟨HP.out, (by5.below BL.out).keep ((K6.out.mono (R := fun i => i = db ∨ qv.ownBlock = some i) (fun i hi => .inr hi)).trans (Keep.far F7.out (.inl rfl))) (fun i hi e => ?_), SL.out.len⟩
        have hw : i < w.heap.size := by
          rcases e with rfl | e
          · have := H.out.lt; omega
          · exact (H.out.queue.lt i e).2
        have hnb : NoBy w i := by
          rcases e with rfl | e
          · exact H.out.noBy
          · exact H.out.noByQ e
        exact hnb.below bl.out hw
    · rcases N6.out with e | e
      · exact .inl e
      · exact .inr (fun g hg => by rw [e] at hg; cases hg; exact bl.out.size)
end Go.Proofs.YtnophelfpoldfaaGreatDoor

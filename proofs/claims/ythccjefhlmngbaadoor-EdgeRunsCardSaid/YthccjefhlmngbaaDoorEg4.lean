/- Steps of a walk by the operation's own shape: an operation of another kind is passed by at once. -/
import Derived.Test.YthccjefhlmngbaaDoorVar
import Derived.Test.YthccjefhlmngbaaDoorEg3
import Derived.Test.YthccjefhlmngbaaDoorEg2
import Derived.Test.YthccjefhlmngbaaDoorEg1
import Derived.Test.YthccjefhlmngbaaDoorEhd
namespace Go.Proofs.YthccjefhlmngbaaDoor
open Go.RowKit

section
variable {P : Program} {ops : Array Oper} {rest : List Oper} {a : Act} {w : World} {Q : Exit → Act → World → Prop} {dst : Option Tmp} {ty t : TypeId} {pos : String} {af : Array Edge}
theorem wpList_mk0 {cells : Array Value} (hb : P.built t [] = some cells)  (h : wpList P ops Q rest (a.put dst (.agg cells)) w) :
    wpList P ops Q ({ dst := dst, op := Op.build t #[], type := ty, pos := pos, after := af, guard := none } :: rest) a w := by
  have hv : ((#[] : Array (Nat × Operand)).map fun (i, x) => (i, a.eval x)).toList = [] := by simp
  exact wpList_build rfl t _ rfl (by rw [hv, hb]; rfl) (by rw [hv, hb]; exact h)
theorem wpList_mk1 {i0 : Nat} {x0 : Operand} {v0 : Value} {cells : Array Value} (hb : P.built t [(i0, v0)] = some cells) (h0 : a.eval x0 = v0) (h : wpList P ops Q rest (a.put dst (.agg cells)) w) :
    wpList P ops Q ({ dst := dst, op := Op.build t #[(i0, x0)], type := ty, pos := pos, after := af, guard := none } :: rest) a w := by
  have hv : ((#[(i0, x0)] : Array (Nat × Operand)).map fun (i, x) => (i, a.eval x)).toList = [(i0, v0)] := by simp [h0]
  exact wpList_build rfl t _ rfl (by rw [hv, hb]; rfl) (by rw [hv, hb]; exact h)
theorem wpList_mk2 {i0 i1 : Nat} {x0 x1 : Operand} {v0 v1 : Value} {cells : Array Value} (hb : P.built t [(i0, v0), (i1, v1)] = some cells) (h0 : a.eval x0 = v0) (h1 : a.eval x1 = v1) (h : wpList P ops Q rest (a.put dst (.agg cells)) w) :
    wpList P ops Q ({ dst := dst, op := Op.build t #[(i0, x0), (i1, x1)], type := ty, pos := pos, after := af, guard := none } :: rest) a w := by
  have hv : ((#[(i0, x0), (i1, x1)] : Array (Nat × Operand)).map fun (i, x) => (i, a.eval x)).toList = [(i0, v0), (i1, v1)] := by simp [h0, h1]
  exact wpList_build rfl t _ rfl (by rw [hv, hb]; rfl) (by rw [hv, hb]; exact h)
theorem wpList_mk3 {i0 i1 i2 : Nat} {x0 x1 x2 : Operand} {v0 v1 v2 : Value} {cells : Array Value} (hb : P.built t [(i0, v0), (i1, v1), (i2, v2)] = some cells) (h0 : a.eval x0 = v0) (h1 : a.eval x1 = v1) (h2 : a.eval x2 = v2) (h : wpList P ops Q rest (a.put dst (.agg cells)) w) :
    wpList P ops Q ({ dst := dst, op := Op.build t #[(i0, x0), (i1, x1), (i2, x2)], type := ty, pos := pos, after := af, guard := none } :: rest) a w := by
  have hv : ((#[(i0, x0), (i1, x1), (i2, x2)] : Array (Nat × Operand)).map fun (i, x) => (i, a.eval x)).toList = [(i0, v0), (i1, v1), (i2, v2)] := by simp [h0, h1, h2]
  exact wpList_build rfl t _ rfl (by rw [hv, hb]; rfl) (by rw [hv, hb]; exact h)
theorem wpList_mk4 {i0 i1 i2 i3 : Nat} {x0 x1 x2 x3 : Operand} {v0 v1 v2 v3 : Value} {cells : Array Value} (hb : P.built t [(i0, v0), (i1, v1), (i2, v2), (i3, v3)] = some cells) (h0 : a.eval x0 = v0) (h1 : a.eval x1 = v1) (h2 : a.eval x2 = v2) (h3 : a.eval x3 = v3) (h : wpList P ops Q rest (a.put dst (.agg cells)) w) :
    wpList P ops Q ({ dst := dst, op := Op.build t #[(i0, x0), (i1, x1), (i2, x2), (i3, x3)], type := ty, pos := pos, after := af, guard := none } :: rest) a w := by
  have hv : ((#[(i0, x0), (i1, x1), (i2, x2), (i3, x3)] : Array (Nat × Operand)).map fun (i, x) => (i, a.eval x)).toList = [(i0, v0), (i1, v1), (i2, v2), (i3, v3)] := by simp [h0, h1, h2, h3]
  exact wpList_build rfl t _ rfl (by rw [hv, hb]; rfl) (by rw [hv, hb]; exact h)
theorem wpList_mk5 {i0 i1 i2 i3 i4 : Nat} {x0 x1 x2 x3 x4 : Operand} {v0 v1 v2 v3 v4 : Value} {cells : Array Value} (hb : P.built t [(i0, v0), (i1, v1), (i2, v2), (i3, v3), (i4, v4)] = some cells) (h0 : a.eval x0 = v0) (h1 : a.eval x1 = v1) (h2 : a.eval x2 = v2) (h3 : a.eval x3 = v3) (h4 : a.eval x4 = v4) (h : wpList P ops Q rest (a.put dst (.agg cells)) w) :
    wpList P ops Q ({ dst := dst, op := Op.build t #[(i0, x0), (i1, x1), (i2, x2), (i3, x3), (i4, x4)], type := ty, pos := pos, after := af, guard := none } :: rest) a w := by
  have hv : ((#[(i0, x0), (i1, x1), (i2, x2), (i3, x3), (i4, x4)] : Array (Nat × Operand)).map fun (i, x) => (i, a.eval x)).toList = [(i0, v0), (i1, v1), (i2, v2), (i3, v3), (i4, v4)] := by simp [h0, h1, h2, h3, h4]
  exact wpList_build rfl t _ rfl (by rw [hv, hb]; rfl) (by rw [hv, hb]; exact h)
theorem wpList_ld {x : Operand} (b o : Nat) (cs : List Value) {d : TypeDesc} (hc : w.rangeAt b o cs) (hu : P.underlying t = some d) (hi : Hid ((P.info? t).map (·.size) = some cs.length)) (hx : a.eval x = .pointer (some ⟨b, o, none⟩)) (hd : d.isRow = true)
    (h : wpList P ops Q rest (a.put dst (.agg cs.toArray)) w) :
    wpList P ops Q ({ dst := dst, op := Op.load t x, type := ty, pos := pos, after := af, guard := none } :: rest) a w :=
  wpList_load_mid rfl t x rfl b o hx cs d hc hu hd hi.out h
theorem wpList_sr {x y : Operand} (g : Nat) (cs : Array Value) (t0 : TypeId) (old : Array Value) (hi : Hid ((P.info? t).map (·.size) = some cs.size)) (ho : Hid (old.size = cs.size)) (h1 : Hid (cs.all (·.oneCell') = true))
    (hx : a.eval x = .pointer (some ⟨g, 0, none⟩)) (hy : a.eval y = .agg cs) (hg : w.heap[g]? = some (.cells old t0 (0, 0))) (h : wpList P ops Q rest (a.put dst undef) (w.setRow g cs)) :
    wpList P ops Q ({ dst := dst, op := Op.store t x y, type := ty, pos := pos, after := af, guard := none } :: rest) a w :=
  wpList_store_row rfl t x y rfl g cs hx hy t0 old hg hi.out ho.out h1.out h
theorem wpList_ldG {x : Operand} {gd : Nat × Bool} (b o : Nat) (cs : List Value) {d : TypeDesc} (hc : w.rangeAt b o cs) (hu : P.underlying t = some d) (hi : Hid ((P.info? t).map (·.size) = some cs.length)) (hx : a.eval x = .pointer (some ⟨b, o, none⟩)) (hd : d.isRow = true)
    (hw : Region.wanted { dst := dst, op := Op.load t x, type := ty, pos := pos, after := af, guard := some gd } (yielded ops a.tmps) = true) (h : wpList P ops Q rest (a.put dst (.agg cs.toArray)) w) :
    wpList P ops Q ({ dst := dst, op := Op.load t x, type := ty, pos := pos, after := af, guard := some gd } :: rest) a w :=
  wpList_load_midG hw t x rfl b o hx cs d hc hu hd hi.out h
theorem wpList_mk0G {gd : Nat × Bool} {cells : Array Value} (hb : P.built t [] = some cells)  (hw : Region.wanted { dst := dst, op := Op.build t #[], type := ty, pos := pos, after := af, guard := some gd } (yielded ops a.tmps) = true) (h : wpList P ops Q rest (a.put dst (.agg cells)) w) :
    wpList P ops Q ({ dst := dst, op := Op.build t #[], type := ty, pos := pos, after := af, guard := some gd } :: rest) a w := by
  have hv : ((#[] : Array (Nat × Operand)).map fun (i, x) => (i, a.eval x)).toList = [] := by simp
  exact wpList_when hw fun _ hK => wp_build t _ rfl (by rw [hv, hb]; rfl) (hK _ _ (by rw [hv, hb]; exact h))
theorem wpList_mk1G {gd : Nat × Bool} {i0 : Nat} {x0 : Operand} {v0 : Value} {cells : Array Value} (hb : P.built t [(i0, v0)] = some cells) (h0 : a.eval x0 = v0) (hw : Region.wanted { dst := dst, op := Op.build t #[(i0, x0)], type := ty, pos := pos, after := af, guard := some gd } (yielded ops a.tmps) = true) (h : wpList P ops Q rest (a.put dst (.agg cells)) w) :
    wpList P ops Q ({ dst := dst, op := Op.build t #[(i0, x0)], type := ty, pos := pos, after := af, guard := some gd } :: rest) a w := by
  have hv : ((#[(i0, x0)] : Array (Nat × Operand)).map fun (i, x) => (i, a.eval x)).toList = [(i0, v0)] := by simp [h0]
  exact wpList_when hw fun _ hK => wp_build t _ rfl (by rw [hv, hb]; rfl) (hK _ _ (by rw [hv, hb]; exact h))
theorem wpList_mk2G {gd : Nat × Bool} {i0 i1 : Nat} {x0 x1 : Operand} {v0 v1 : Value} {cells : Array Value} (hb : P.built t [(i0, v0), (i1, v1)] = some cells) (h0 : a.eval x0 = v0) (h1 : a.eval x1 = v1) (hw : Region.wanted { dst := dst, op := Op.build t #[(i0, x0), (i1, x1)], type := ty, pos := pos, after := af, guard := some gd } (yielded ops a.tmps) = true) (h : wpList P ops Q rest (a.put dst (.agg cells)) w) :
    wpList P ops Q ({ dst := dst, op := Op.build t #[(i0, x0), (i1, x1)], type := ty, pos := pos, after := af, guard := some gd } :: rest) a w := by
  have hv : ((#[(i0, x0), (i1, x1)] : Array (Nat × Operand)).map fun (i, x) => (i, a.eval x)).toList = [(i0, v0), (i1, v1)] := by simp [h0, h1]
  exact wpList_when hw fun _ hK => wp_build t _ rfl (by rw [hv, hb]; rfl) (hK _ _ (by rw [hv, hb]; exact h))
/-- .. over a row as long -/
theorem wpList_sr0 {x y : Operand} (g : Nat) (cs : Array Value) (t0 : TypeId) (old : Array Value) (hi : Hid ((P.info? t).map (·.size) = some cs.size)) (h1 : Hid (cs.all (·.oneCell') = true))
    (hx : a.eval x = .pointer (some ⟨g, 0, none⟩)) (hy : a.eval y = .agg cs) (hg : w.heap[g]? = some (.cells old t0 (0, 0))) (ho : old.size = cs.size) (h : wpList P ops Q rest (a.put dst undef) (w.setRow g cs)) :
    wpList P ops Q ({ dst := dst, op := Op.store t x y, type := ty, pos := pos, after := af, guard := none } :: rest) a w :=
  wpList_store_row rfl t x y rfl g cs hx hy t0 old hg hi.out ho h1.out h
/-- a variable that is made and written at once -/
theorem wpList_var {x y : Operand} {dst2 : Option Tmp} {ty2 : TypeId} {pos2 : String} {af2 : Array Edge} (cs : Array Value) (z : Array Value) (hz : ∀ w : World, (zeroValue t).run P w = .ok (.agg z) w) (hi : Hid ((P.info? t).map (·.size) = some cs.size)) (ho : Hid (z.size = cs.size)) (h1 : Hid (cs.all (·.oneCell') = true))
    (hx : (a.put dst (.pointer (some ⟨w.heap.size, 0, none⟩))).eval x = .pointer (some ⟨w.heap.size, 0, none⟩)) (hy : (a.put dst (.pointer (some ⟨w.heap.size, 0, none⟩))).eval y = .agg cs)
    (h : ∀ w' : World, w'.heap[w.heap.size]? = some (.cells cs t (0, 0)) → Below w.heap.size w w' → wpList P ops Q rest ((a.put dst (.pointer (some ⟨w.heap.size, 0, none⟩))).put dst2 undef) w') :
    wpList P ops Q ({ dst := dst, op := Op.alloc t, type := ty, pos := pos, after := af, guard := none } :: { dst := dst2, op := Op.store t x y, type := ty2, pos := pos2, after := af2, guard := none } :: rest) a w := by
  refine wpList_plain rfl fun K hK => ?_
  have hr : (Instr.alloc t true (Value.tuple #[])).run P w = .ok (.pointer (some ⟨w.heap.size, 0, none⟩)) (w.alloc (.cells z t)) := by
    simp [Instr.alloc, newVar, newRow, hz, Value.cells]
  unfold Oper.wp execOp
  simp only [Sem.run_bind, hr, Result.andThen_ok, Sem.run_pure, Oper.upon_value]
  refine hK _ _ (wpList_sr w.heap.size cs t z hi ho h1 hx hy (heap_alloc_new w _) ?_)
  exact h _ (laid w z cs t).1 (laid w z cs t).2
end
end Go.Proofs.YthccjefhlmngbaaDoor

/- Calls at an edge with one forward, plain. -/
namespace Go.Proofs.YthccjefhlmngbaaDoor
open Go.RowKit

theorem first_one {P : Fw → Bool} {f g : Fw} {j : Nat} (h : FirstF [f] P j g) : j = 0 ∧ g = f := by
  have h1 := h.1
  cases j with
  | zero => exact ⟨rfl, (Option.some.inj h1).symm⟩
  | succ j => simp at h1
theorem setC_one {M M' : QM} {f : Fw} {line no : Int} {sec : List Nat} {lg : Lg} {k : Nat} {L' : List Fw} (h : SetC [f] M line no sec lg k L' M') (hh : hitF line no true f = true) (hk : sha sec = f.out.o.lock) (hs : f.st ≠ 2) :
    lg = f.inn ∧ k = 0 ∧ L' = [{ f with st := 1, sec := sec }] ∧ M' = M := by
  obtain ⟨hm, h | ⟨j, g, hf, h⟩⟩ := h
  · rw [h.1 f (List.mem_singleton.2 rfl)] at hh
    cases hh
  · obtain ⟨rfl, rfl⟩ := first_one hf
    rcases h with h | h | h
    · exact absurd hk h.1
    · exact absurd h.2.1 hs
    · exact ⟨h.2.2.1, h.2.2.2.1, h.2.2.2.2, hm⟩
theorem givC_one {M M' : QM} {f : Fw} {line no : Int} {lg : Lg} {k : Nat} {L' : List Fw} (h : GivC [f] M line no lg k L' M') (hh : hitF line no true f = true) (hs : f.st ≠ 0) : k = 52 ∧ L' = [f] ∧ M' = M := by
  rcases h with h | ⟨j, g, hf, h⟩
  · rw [h.1 f (List.mem_singleton.2 rfl)] at hh
    cases hh
  · obtain ⟨rfl, rfl⟩ := first_one hf
    rcases h with h | h
    · exact ⟨h.2.2.1, h.2.2.2.1, h.2.2.2.2⟩
    · exact absurd h.1 hs
theorem cloC_open {f : Fw} {line no : Int} {k : Nat} {L' : List Fw} (h : CloC [f] line no k L') (hh : hitF line no false f = true) (hs : f.st = 0) : k = 52 ∧ L' = [f] := by
  rcases h with h | ⟨j, g, hf, h⟩
  · rw [h.1 f (List.mem_singleton.2 rfl)] at hh
    cases hh
  · obtain ⟨rfl, rfl⟩ := first_one hf
    rcases h with h | h
    · exact h.2
    · exact absurd hs h.1
theorem cloC_shut {f : Fw} {line no : Int} {k : Nat} {L' : List Fw} (h : CloC [f] line no k L') (hh : hitF line no false f = true) (hs : f.st ≠ 0) : k = 0 ∧ L' = [] := by
  rcases h with h | ⟨j, g, hf, h⟩
  · rw [h.1 f (List.mem_singleton.2 rfl)] at hh
    cases hh
  · obtain ⟨rfl, rfl⟩ := first_one hf
    rcases h with h | h
    · exact absurd h.1 hs
    · exact h.2
def hqp (m used : Nat) : Quo := ⟨hbx 0, hbx 9, false, m, 1, 1, 1, 40, used⟩
theorem hbx0 : hbx 0 = hz32 := by decide
theorem quS_one {m : Nat} (hm : m ≠ 0) : ∃ M, quS 0 [⟨hbx 9, false, m, 1, 1, 40⟩] (fun _ => none) 0 = (M, 1) ∧ M (hbx 0) = some (hqp m 0) := by
  have ea : askC (fun _ => none) 0 (hbx 0) (hbx 9) m = 0 := by
    unfold askC
    rw [if_neg (by rintro (h | h); exact hm h; exact hz_ne9 h), if_neg (by simp), if_neg (by decide)]
  have eA : accS (some (askQ (hbx 0) (hbx 9) false m)) 1 1 40 = (hqp m 0, 0) := by
    unfold accS
    rw [if_neg (by decide), if_neg (by decide)]
    rfl
  have e : quS 0 [⟨hbx 9, false, m, 1, 1, 40⟩] (fun _ => none) 0 = (resM (updM (fun _ => none) (hbx 0) (askQ (hbx 0) (hbx 9) false m)) (hbx 0) (hqp m 0, 0), 1) := by
    have e1 : quM 0 ⟨hbx 9, false, m, 1, 1, 40⟩ (fun _ => none) 0 = (resM (updM (fun _ => none) (hbx 0) (askQ (hbx 0) (hbx 9) false m)) (hbx 0) (hqp m 0, 0), 1) := by
      unfold quM
      rw [if_pos (by decide), if_pos ea, eA]
    show (let p := quM 0 ⟨hbx 9, false, m, 1, 1, 40⟩ (fun _ => none) 0; (p.1, p.2)) = _
    rw [e1]
  refine ⟨_, e, ?_⟩
  unfold resM
  rw [if_pos rfl]
  unfold updM
  rw [if_pos rfl]
/-- the legs of EdgePays and EdgeUses -/
def legI (n : Int) (am : Nat) (lk : List Nat) : Lg := ⟨1, ⟨n, 0, hbx 9, am, lk, 50⟩⟩
def legO (n : Int) (am : Nat) (lk : List Nat) (til : Int) : Lg := ⟨2, ⟨n, 0, hz32, am, lk, til⟩⟩
theorem holds_11 {m u am : Nat} (h : u + am ≤ m) (hm : m < 18446744073709551616) : holdsS (some (hqp m u)) 9 am = (hqp m (u + am), 0) := by
  show (if (1 : Int) = 1 then (if (40 : Int) < 9 then (qz, 33) else if u + am < 18446744073709551616 then (if m < u + am then (qz, 51) else (hqp m (u + am), 0)) else (qz, 51)) else (qz, 52)) = _
  rw [if_pos rfl, if_neg (by decide), if_pos (by omega), if_neg (by omega)]
theorem handU_11 {M : QM} {m u : Nat} (hM : M (hbx 0) = some (hqp m u)) {am : Nat} {n1 n2 til : Int} {lk : List Nat} (h : u + am ≤ m) (hm : m < 18446744073709551616) (h0 : am ≠ 0) : handU M (legI n1 am lk) (legO n2 am lk til) (hbx 0) 9 = (hqp m (u + am), 0) := by
  unfold handU
  have p1 : pickA (legI n1 am lk) (legO n2 am lk til) = (legI n1 am lk).o := if_neg hz_ne9
  have p2 : pickB (legI n1 am lk) (legO n2 am lk til) = (legO n2 am lk til).o := if_neg hz_ne9
  rw [if_neg (show ¬ (legI n1 am lk).o.id = hz32 from hz_ne9), p1, p2, hM]
  show useS (some (hqp m u)) false 9 am _ = _
  unfold useS
  rw [if_neg h0, holds_11 h hm, if_neg (by simp)]
  show (if (false ≠ false ∨ payB am 1 am 1 = false) then _ else _) = _
  have hp : payB am 1 am 1 = true := by unfold payB; simp
  rw [hp, if_neg (by simp)]
theorem arg_11 {n1 n2 til : Int} {am : Nat} {lk : List Nat} (h0 : 0 ≤ til) (h1 : til ≤ 1073741824) : argB (legI n1 am lk) (legO n2 am lk til) = false := by
  unfold argB legI legO isH
  have e9 : decide (hbx 9 = hz32) = false := decide_eq_false hz_ne9
  have e1 : decide (0 ≤ til) = true := decide_eq_true h0
  have e2 : decide (til ≤ 1073741824) = true := decide_eq_true h1
  simp [e9, e1, e2]
theorem handC_11 {M : QM} {m u : Nat} (hM : M (hbx 0) = some (hqp m u)) {am : Nat} {n1 n2 til dl : Int} {lk : List Nat} {L : List Fw} (h : u + am ≤ m) (hm : m < 18446744073709551616) (h0 : am ≠ 0) (t0 : 9 < til) (t1 : til ≤ 1073741824) (t2 : dl ≤ 50 - til)
    (hL : L.length < 256) (hf1 : anyF L 1 n1 false = false) (hf2 : anyF L 2 n2 true = false) : handC (legI n1 am lk) (legO n2 am lk til) (hbx 0) 9 dl L M = 0 := by
  unfold handC
  have hf : (anyF L (legI n1 am lk).line (legI n1 am lk).o.no false || anyF L (legO n2 am lk til).line (legO n2 am lk til).o.no true) = false := by
    show (anyF L 1 n1 false || anyF L 2 n2 true) = false
    rw [hf1, hf2]
    rfl
  have ht : timB (legI n1 am lk) (legO n2 am lk til) 9 dl = false := by
    show (decide (til ≤ 9) || decide (50 - til < dl)) = false
    rw [decide_eq_false (by omega), decide_eq_false (by omega)]
    rfl
  rw [arg_11 (by omega) t1, if_neg (by decide), hf, if_neg (by decide), if_neg (by omega), ht, if_neg (by decide), hM]
  show (if (pickA (legI n1 am lk) (legO n2 am lk til)).id ≠ hbx 9 then 60 else (handU M (legI n1 am lk) (legO n2 am lk til) (hbx 0) 9).2) = 0
  rw [show pickA (legI n1 am lk) (legO n2 am lk til) = (legI n1 am lk).o from if_neg hz_ne9, if_neg (by simp [legI]), handU_11 hM h hm h0]
end Go.Proofs.YthccjefhlmngbaaDoor

/- An edge in a law's hands: what stays from call to call. -/
namespace Go.Proofs.YthccjefhlmngbaaDoor
open Go.RowKit

/-- what is behind, out of sight till it is come to -/
theorem wp_rest {P : Program} {A B : Code} {Q : Exit → Act → World → Prop} {a : Act} {w : World} (h : ∀ C, Hid (C = B) → Code.wp P (A.seq C) Q a w) : Code.wp P (A.seq B) Q a w := h B (hid rfl)
theorem wp_here {P : Program} {B C : Code} {Q : Exit → Act → World → Prop} {a : Act} {w : World} (hC : Hid (C = B)) (h : Code.wp P B Q a w) : Code.wp P C Q a w := by rw [hC.out]; exact h
/-- the law's edge, its table, and that nothing older than the law was changed -/
structure Ses (N0 : Nat) (w0 w : World) (eb tb mb : Nat) (dl : Int) (B : Nat) (v : Value) (L : List Fw) (M : QM) (n : Nat) : Prop where
  s : Shop w eb tb mb dl B v L M n
  b : Below N0 w0 w
  le : N0 ≤ eb ∧ N0 ≤ mb ∧ N0 ≤ B
/-- a block of the law's own, none of the edge's -/
def Held (w : World) (eb mb : Nat) (v : Value) (g : Nat) (x : Obj) : Prop := w.heap[g]? = some x ∧ g ≠ eb ∧ g ≠ mb ∧ v.ownBlock ≠ some g
section
variable {N0 : Nat} {w0 w w' : World} {eb tb mb : Nat} {dl : Int} {B : Nat} {v v' : Value} {L L' : List Fw} {M M' : QM} {n n' g R : Nat} {x : Obj}
theorem Held.call (h : Held w eb mb v g x) (k : Keep (ShopS eb mb v) w w') (y : Newer w v v') : Held w' eb mb v' g x :=
  ⟨k.heap h.1 (fun hh => hh.elim h.2.1 (fun hh => hh.elim h.2.2.1 h.2.2.2)), h.2.1, h.2.2.1, fun e => y.elim (fun y => h.2.2.2 (y ▸ e)) (fun y => by
    have := y g e
    have := (Array.getElem?_eq_some_iff.1 h.1).1
    omega)⟩
theorem Held.leg (h : Held w eb mb v g x) (k : Keep (ShopS eb mb v) w w') : Held w' eb mb v g x := h.call k (Newer.refl _ _)
theorem Held.below (h : Held w eb mb v g x) (b : Below w.heap.size w w') : Held w' eb mb v g x := ⟨heap_keep h.1 b, h.2⟩
theorem Held.far (h : Held w eb mb v g x) (f : Far R w w') (hR : g ≠ R) : Held w' eb mb v g x := ⟨heap_far h.1 f hR, h.2⟩
theorem Ses.call (h : Ses N0 w0 w eb tb mb dl B v L M n) (s : Shop w' eb tb mb dl B v' L' M' n') (k : Keep (ShopS eb mb v) w w') : Ses N0 w0 w' eb tb mb dl B v' L' M' n' :=
  ⟨s, h.b.trans (k.below (shop_low h.le.1 h.le.2.1 (fun _ hg => Nat.le_trans h.le.2.2 (h.s.e.own.lt _ hg).1)) (Nat.le_trans h.le.2.2 h.s.lt.2.2)), h.le⟩
theorem Ses.keep (h : Ses N0 w0 w eb tb mb dl B v L M n) (k : Keep (ShopS eb mb v) w w') : Below N0 w0 w' :=
  h.b.trans (k.below (shop_low h.le.1 h.le.2.1 (fun _ hg => Nat.le_trans h.le.2.2 (h.s.e.own.lt _ hg).1)) (Nat.le_trans h.le.2.2 h.s.lt.2.2))
theorem Ses.below (h : Ses N0 w0 w eb tb mb dl B v L M n) (b : Below w.heap.size w w') : Ses N0 w0 w' eb tb mb dl B v L M n :=
  ⟨h.s.below b, h.b.trans (b.mono (Nat.le_trans h.le.2.2 h.s.lt.2.2)), h.le⟩
theorem Ses.far (h : Ses N0 w0 w eb tb mb dl B v L M n) (f : Far R w w') (hR : B ≤ R) (hv : v.ownBlock ≠ some R) : Ses N0 w0 w' eb tb mb dl B v L M n :=
  ⟨h.s.fresh f hR (fun _ hg e => hv (e ▸ hg)), h.b.trans (f.below (Nat.le_trans h.le.2.2 hR) (Nat.le_trans h.le.2.2 h.s.lt.2.2)), h.le⟩
/-- what is new is none of the edge's -/
theorem Held.new (h : Ses N0 w0 w eb tb mb dl B v L M n) (hx : w'.heap[g]? = some x) (hg : w.heap.size ≤ g) : Held w' eb mb v g x :=
  ⟨hx, fun e => by have := h.s.e.lt; have := h.s.lt; omega, fun e => by have := h.s.lt; omega, fun e => by have := (h.s.e.own.lt _ e).2; omega⟩
/-- a row of an old one, older than the edge -/
theorem Held.old (h : Shop w eb tb mb dl B v L M n) (hx : w.heap[g]? = some x) (he : g < eb) (hm : g ≠ mb) (hB : g < B) : Held w eb mb v g x :=
  ⟨hx, Nat.ne_of_lt he, hm, fun e => by have := (h.e.own.lt _ e).1; omega⟩
theorem Held.low (h : Held w eb mb v g x) : g < w.heap.size := (Array.getElem?_eq_some_iff.1 h.1).1
end
/-- the quote of the laws: units of 9 for as many coins -/
def qd1 (m : Nat) : Qd := ⟨hbx 9, false, m, 1, 1, 40⟩
theorem qd1_ok {m : Nat} (h : m < 18446744073709551616) : (qd1 m).ok := ⟨rfl, (hbx_ok (by decide)).2, h, (by decide : (1 : Nat) < 18446744073709551616), (by decide : (1 : Nat) < 18446744073709551616), (by decide : (Lit.int .i64 40).wf = true)⟩
set_option maxRecDepth 100000 in
theorem bqd1 (m : Nat) : Tryd.prog.built 32 [(0, .agg (nums .u8 (hbx 9)).toArray), (2, .int .u64 (m : Int)), (3, .agg #[.int .u64 1, .int .u64 1]), (4, .int .i64 40)] = some (qd1 m).cells.toArray := by kernel_rfl
theorem qds_one {w : World} {g : Nat} {q : Qd} (hq : q.ok) (h : w.heap[g]? = some (.cells q.cells.toArray 32 (0, 0))) : Qds w (some ⟨g, 0, none⟩) 1 1 [q] := by
  refine ⟨rfl, ⟨by simp [Qd.len hq], Nat.le_refl _, (by unfold maxLen; omega), (fun e => nomatch e), g, 0, fun _ => rfl, fun j u hj => ?_⟩, fun x hx => by rw [List.mem_singleton.1 hx]; exact hq⟩
  have := gen_cell (j := j) (row_range h) (by simpa using hj)
  simpa using this
theorem andU (a k : Nat) (ha : a < 18446744073709551616) (hk : k < 64) : bits .and .u64 (a : Int) ((2 ^ k - 1 : Nat) : Int) = ((a % 2 ^ k : Nat) : Int) := by
  have hp : 2 ^ k ≤ 2 ^ 63 := Nat.pow_le_pow_right (by decide) (by omega)
  have h127 : (BitVec.ofInt 64 ((2 ^ k - 1 : Nat) : Int)).toNat = 2 ^ k - 1 := by
    rw [BitVec.toNat_ofInt]
    have : (2 : Nat) ^ 63 = 9223372036854775808 := by decide
    have e64 : (2 ^ 64 : Nat) = 18446744073709551616 := by decide
    rw [e64]
    generalize 2 ^ k = q at *
    omega
  have key : (BitVec.ofInt 64 (a : Int) &&& BitVec.ofInt 64 ((2 ^ k - 1 : Nat) : Int)).toNat = a % 2 ^ k := by
    rw [BitVec.toNat_and, h127, Nat.and_two_pow_sub_one_eq_mod, BitVec.toNat_ofInt]
    congr 1
    have e64 : (2 ^ 64 : Nat) = 18446744073709551616 := by decide
    rw [e64]
    omega
  show IntKind.u64.wrap ((BitVec.ofInt 64 (a : Int) &&& BitVec.ofInt 64 ((2 ^ k - 1 : Nat) : Int)).toNat : Nat) = _
  rw [key, IntKind.wrap_u64]
  have := Nat.mod_le a (2 ^ k)
  omega
theorem wrap8 (n : Int) : ∃ b : Nat, b < 256 ∧ IntKind.u8.wrap n = (b : Int) := ⟨(n % 256).toNat, by omega, by rw [IntKind.wrap_u8]; omega⟩
theorem bhx (v : Nat) : Tryd.prog.built 27 [(0, .int .u8 (v : Int))] = some (nums .u8 (hbx v)).toArray := by kernel_rfl
theorem bh9 : Tryd.prog.built 27 [(0, .int .u8 9)] = some (nums .u8 (hbx 9)).toArray := by kernel_rfl
theorem bh0 : Tryd.prog.built 27 [] = some (nums .u8 (hbx 0)).toArray := by kernel_rfl
theorem zeroH : ∀ w : World, (zeroValue 27).run Tryd.prog w = .ok (.agg (nums .u8 hz32).toArray) w := zv_of (by kernel_rfl)
theorem bR11 : Tryd.prog.built 30 [(0, .int .u64 1), (1, .int .u64 1)] = some #[.int .u64 1, .int .u64 1] := by kernel_rfl
theorem wpList_qlit {ops : Array Oper} {rest : List Oper} {a : Act} {w : World} {Q : Exit → Act → World → Prop} {m : Nat} {x : Operand} {dst : Option Tmp} {ty : TypeId} {pos : String} {af : Array Edge} (hq : Hid ((qd1 m).ok)) (hx : a.eval x = .agg (qd1 m).cells.toArray)
    (h : wpList Tryd.prog ops Q rest (a.put dst (.slice (some ⟨w.heap.size, 0, none⟩) 1 1)) (w.alloc (.cells (qd1 m).cells.toArray 32))) :
    wpList Tryd.prog ops Q ({ dst := dst, op := Op.buildSlice 33 1 #[(0, x)], type := ty, pos := pos, after := af, guard := none } :: rest) a w :=
  wpList_lit1 rfl _ _ x rfl (cells := (qd1 m).cells.toArray) hx Tryd.underlying33 (size := 37) (by kernel_rfl) (by kernel_rfl) (by rw [List.size_toArray]; exact Qd.len hq.out) (by decide) (by decide) h
theorem legI_ok {n : Int} {am : Nat} {lk : List Nat} (hn : (Lit.int .i64 n).wf = true) (ha : am < 18446744073709551616) (h : EH.ok lk) : (legI n am lk).ok := ⟨⟨rfl, (hbx_ok (by decide)).2, ha, h.1, h.2, hn, (by decide : (Lit.int .i64 0).wf = true), (by decide : (Lit.int .i64 50).wf = true)⟩, (by decide : (Lit.int .i64 1).wf = true)⟩
theorem legO_ok {n til : Int} {am : Nat} {lk : List Nat} (hn : (Lit.int .i64 n).wf = true) (ha : am < 18446744073709551616) (h : EH.ok lk) (ht : (Lit.int .i64 til).wf = true) : (legO n am lk til).ok := ⟨⟨rfl, hz32_ok.2, ha, h.1, h.2, hn, (by decide : (Lit.int .i64 0).wf = true), ht⟩, (by decide : (Lit.int .i64 2).wf = true)⟩
end Go.Proofs.YthccjefhlmngbaaDoor

/- Legs and forwards. -/
import Derived.Test.YthccjefhlmngbaaDoorTb
import Derived.Test.YthccjefhlmngbaaDoorZc
import Derived.Test.YthccjefhlmngbaaDoorVar
import Derived.Test.YthccjefhlmngbaaDoorMap
import Derived.Maps.AppendAt
namespace Go.Proofs.YthccjefhlmngbaaDoor
open Go.RowKit

structure Ofr where
  no : Int
  frm : Int
  id : List Nat
  am : Nat
  lock : List Nat
  til : Int
def Ofr.cells (x : Ofr) : List Value := [.int .i64 x.no, .int .i64 x.frm] ++ (nums .u8 x.id ++ (.int .u64 (x.am : Int) :: (nums .u8 x.lock ++ [.int .i64 x.til])))
structure Ofr.ok (x : Ofr) : Prop where
  il : x.id.length = 32
  ib : ∀ d ∈ x.id, d < 256
  ab : x.am < 18446744073709551616
  ll : x.lock.length = 32
  lb : ∀ d ∈ x.lock, d < 256
  nw : (Lit.int .i64 x.no).wf = true
  fw : (Lit.int .i64 x.frm).wf = true
  tw : (Lit.int .i64 x.til).wf = true
structure Lg where
  line : Int
  o : Ofr
def Lg.cells (x : Lg) : List Value := .int .i64 x.line :: x.o.cells
structure Lg.ok (x : Lg) : Prop where
  o : x.o.ok
  lw : (Lit.int .i64 x.line).wf = true
structure Fw where
  inn : Lg
  out : Lg
  qt : List Nat
  units : Nat
  sec : List Nat
  st : Int
def Fw.tail (f : Fw) : List Value := nums .u8 f.qt ++ (.int .u64 (f.units : Int) :: (nums .u8 f.sec ++ [.int .i64 f.st]))
def Fw.cells (f : Fw) : List Value := f.inn.cells ++ (f.out.cells ++ f.tail)
structure Fw.ok (f : Fw) : Prop where
  i : f.inn.ok
  o : f.out.ok
  ql : f.qt.length = 32
  qb : ∀ d ∈ f.qt, d < 256
  ub : f.units < 18446744073709551616
  sl : f.sec.length = 32
  sb : ∀ d ∈ f.sec, d < 256
  sw : (Lit.int .i64 f.st).wf = true
theorem Ofr.len {x : Ofr} (h : x.ok) : x.cells.length = 68 := by simp [Ofr.cells, h.il, h.ll]
theorem Lg.len {x : Lg} (h : x.ok) : x.cells.length = 69 := by simp [Lg.cells, Ofr.len h.o]
theorem Fw.len {x : Fw} (h : x.ok) : x.cells.length = 204 := by simp [Fw.cells, Fw.tail, Lg.len h.i, Lg.len h.o, h.ql, h.sl]
/-- a piece of a list -/
def Has (L : List Value) (o : Nat) (P : List Value) : Prop := ∃ A B, L = A ++ (P ++ B) ∧ A.length = o
theorem Has.rng {w : World} {b o k : Nat} {L P : List Value} (h : Has L o P) (hw : w.rangeAt b k L) : w.rangeAt b (k + o) P := by
  obtain ⟨A, B, rfl, rfl⟩ := h
  intro j v hj
  rw [Nat.add_assoc]
  refine hw _ _ ?_
  rw [List.getElem?_append_right (by omega), Nat.add_sub_cancel_left, List.getElem?_append_left (List.getElem?_eq_some_iff.1 hj).1]
  exact hj
theorem Has.one {w : World} {b o k : Nat} {L : List Value} {v : Value} (h : Has L o [v]) (hw : w.rangeAt b k L) : w.cell? ⟨b, k + o, none⟩ = some v := by
  have := h.rng hw 0 v rfl
  rwa [Nat.add_zero] at this
theorem Has.get {o : Nat} {L : List Value} {v : Value} (h : Has L o [v]) : L[o]? = some v := by
  obtain ⟨A, B, rfl, rfl⟩ := h
  rw [List.getElem?_append_right (by omega)]; simp
theorem Has.trans {L P Q : List Value} {o k : Nat} (h : Has L o P) (h' : Has P k Q) : Has L (o + k) Q := by
  obtain ⟨A, B, rfl, rfl⟩ := h
  obtain ⟨A', B', rfl, rfl⟩ := h'
  exact ⟨A ++ A', B' ++ B, by simp, by simp⟩
theorem Ofr.hasNo (x : Ofr) : Has x.cells 0 [.int .i64 x.no] := ⟨[], _, rfl, rfl⟩
theorem Ofr.hasFrm (x : Ofr) : Has x.cells 1 [.int .i64 x.frm] := ⟨[.int .i64 x.no], _, rfl, rfl⟩
theorem Ofr.hasId (x : Ofr) : Has x.cells 2 (nums .u8 x.id) := ⟨[.int .i64 x.no, .int .i64 x.frm], _, rfl, rfl⟩
theorem Ofr.hasAm {x : Ofr} (h : x.ok) : Has x.cells 34 [.int .u64 (x.am : Int)] := ⟨[.int .i64 x.no, .int .i64 x.frm] ++ nums .u8 x.id, nums .u8 x.lock ++ [.int .i64 x.til], by simp [Ofr.cells], by simp [h.il]⟩
theorem Ofr.hasLock {x : Ofr} (h : x.ok) : Has x.cells 35 (nums .u8 x.lock) := ⟨[.int .i64 x.no, .int .i64 x.frm] ++ nums .u8 x.id ++ [.int .u64 (x.am : Int)], [.int .i64 x.til], by simp [Ofr.cells], by simp [h.il]⟩
theorem Ofr.hasTil {x : Ofr} (h : x.ok) : Has x.cells 67 [.int .i64 x.til] := ⟨[.int .i64 x.no, .int .i64 x.frm] ++ nums .u8 x.id ++ [.int .u64 (x.am : Int)] ++ nums .u8 x.lock, [], by simp [Ofr.cells], by simp [h.il, h.ll]⟩
theorem Lg.hasLine (x : Lg) : Has x.cells 0 [.int .i64 x.line] := ⟨[], _, rfl, rfl⟩
theorem Lg.hasO (x : Lg) : Has x.cells 1 x.o.cells := ⟨[.int .i64 x.line], [], by simp [Lg.cells], rfl⟩
theorem Fw.hasIn (x : Fw) : Has x.cells 0 x.inn.cells := ⟨[], _, rfl, rfl⟩
theorem Fw.hasOut {x : Fw} (h : x.ok) : Has x.cells 69 x.out.cells := ⟨x.inn.cells, x.tail, rfl, Lg.len h.i⟩
theorem Fw.hasTail {x : Fw} (h : x.ok) : Has x.cells 138 x.tail := ⟨x.inn.cells ++ x.out.cells, [], by simp [Fw.cells], by simp [Lg.len h.i, Lg.len h.o]⟩
theorem Fw.hasQt {x : Fw} (h : x.ok) : Has x.cells 138 (nums .u8 x.qt) := (Fw.hasTail h).trans (k := 0) ⟨[], _, rfl, rfl⟩
theorem Fw.hasUnits {x : Fw} (h : x.ok) : Has x.cells 170 [.int .u64 (x.units : Int)] := (Fw.hasTail h).trans (k := 32) ⟨nums .u8 x.qt, nums .u8 x.sec ++ [.int .i64 x.st], rfl, by simp [h.ql]⟩
theorem Fw.hasSec {x : Fw} (h : x.ok) : Has x.cells 171 (nums .u8 x.sec) := (Fw.hasTail h).trans (k := 33) ⟨nums .u8 x.qt ++ [.int .u64 (x.units : Int)], [.int .i64 x.st], by simp [Fw.tail], by simp [h.ql]⟩
theorem Fw.hasSt {x : Fw} (h : x.ok) : Has x.cells 203 [.int .i64 x.st] := (Fw.hasTail h).trans (k := 65) ⟨nums .u8 x.qt ++ [.int .u64 (x.units : Int)] ++ nums .u8 x.sec, [], by simp [Fw.tail], by simp [h.ql, h.sl]⟩
theorem Ofr.one (x : Ofr) : ∀ v ∈ x.cells, v.oneCell' = true := by
  intro v hv
  simp only [Ofr.cells, List.mem_append, List.mem_cons, List.not_mem_nil, or_false] at hv
  rcases hv with (rfl | rfl) | hv | rfl | hv | rfl
  · rfl
  · rfl
  · exact nums_oneCell _ _ v hv
  · rfl
  · exact nums_oneCell _ _ v hv
  · rfl
theorem Lg.one (x : Lg) : ∀ v ∈ x.cells, v.oneCell' = true := by
  intro v hv
  rcases List.mem_cons.1 hv with rfl | hv
  · rfl
  · exact Ofr.one _ v hv
theorem Fw.one (x : Fw) : ∀ v ∈ x.cells, v.oneCell' = true := by
  intro v hv
  simp only [Fw.cells, Fw.tail, List.mem_append, List.mem_cons, List.not_mem_nil, or_false] at hv
  rcases hv with hv | hv | hv | rfl | hv | rfl
  · exact Lg.one _ v hv
  · exact Lg.one _ v hv
  · exact nums_oneCell _ _ v hv
  · rfl
  · exact nums_oneCell _ _ v hv
  · rfl
def oz : Ofr := ⟨0, 0, hz32, 0, hz32, 0⟩
def lz : Lg := ⟨0, oz⟩
def fz : Fw := ⟨lz, lz, hz32, 0, hz32, 0⟩
theorem hz32_ok : hz32.length = 32 ∧ ∀ d ∈ hz32, d < 256 := ⟨rfl, by intro d hd; simp [hz32] at hd; omega⟩
theorem oz_ok : oz.ok := ⟨hz32_ok.1, hz32_ok.2, by decide, hz32_ok.1, hz32_ok.2, by decide, by decide, by decide⟩
theorem lz_ok : lz.ok := ⟨oz_ok, by decide⟩
theorem fz_ok : fz.ok := ⟨lz_ok, lz_ok, hz32_ok.1, hz32_ok.2, by decide, hz32_ok.1, hz32_ok.2, by decide⟩
def zO : Array Value := oz.cells.toArray
def zL : Array Value := lz.cells.toArray
def zF : Array Value := fz.cells.toArray
theorem zO_size : zO.size = 68 := by unfold zO; rw [List.size_toArray]; exact Ofr.len oz_ok
theorem zL_size : zL.size = 69 := by unfold zL; rw [List.size_toArray]; exact Lg.len lz_ok
theorem zF_size : zF.size = 204 := by unfold zF; rw [List.size_toArray]; exact Fw.len fz_ok
theorem zO_ne : ¬ zO = #[] := by intro e; have := zO_size; rw [e] at this; exact absurd this (by decide)
theorem zL_ne : ¬ zL = #[] := by intro e; have := zL_size; rw [e] at this; exact absurd this (by decide)
theorem zF_ne : ¬ zF = #[] := by intro e; have := zF_size; rw [e] at this; exact absurd this (by decide)
theorem zv_of {t : TypeId} {Z : Array Value} (h : (Tryd.prog.info? t).map (·.zero) = some (some (.agg Z))) (w : World) : (zeroValue t).run Tryd.prog w = .ok (.agg Z) w := by
  cases hi : Tryd.prog.info? t with
  | none => rw [hi] at h; cases h
  | some i =>
    rw [hi] at h
    simp only [Option.map_some, Option.some.injEq] at h
    simp [zeroValue, typeInfo, hi, h]
theorem zeroO : ∀ w : World, (zeroValue 40).run Tryd.prog w = .ok (.agg zO) w := zv_of (by kernel_rfl)
theorem zeroL : ∀ w : World, (zeroValue 42).run Tryd.prog w = .ok (.agg zL) w := zv_of (by kernel_rfl)
theorem zeroF : ∀ w : World, (zeroValue 62).run Tryd.prog w = .ok (.agg zF) w := zv_of (by kernel_rfl)
theorem infoO : (Tryd.prog.info? 40).map (·.size) = some 68 := by kernel_rfl
theorem infoL : (Tryd.prog.info? 42).map (·.size) = some 69 := by kernel_rfl
theorem infoF : (Tryd.prog.info? 62).map (·.size) = some 204 := by kernel_rfl
theorem infoOl {x : Ofr} (h : x.ok) : (Tryd.prog.info? 40).map (·.size) = some x.cells.length := by rw [Ofr.len h]; exact infoO
theorem infoLl {x : Lg} (h : x.ok) : (Tryd.prog.info? 42).map (·.size) = some x.cells.length := by rw [Lg.len h]; exact infoL
theorem infoFl {x : Fw} (h : x.ok) : (Tryd.prog.info? 62).map (·.size) = some x.cells.length := by rw [Fw.len h]; exact infoF
theorem infoOa {x : Ofr} (h : x.ok) : (Tryd.prog.info? 40).map (·.size) = some x.cells.toArray.size := by rw [List.size_toArray]; exact infoOl h
theorem infoLa {x : Lg} (h : x.ok) : (Tryd.prog.info? 42).map (·.size) = some x.cells.toArray.size := by rw [List.size_toArray]; exact infoLl h
theorem infoFa {x : Fw} (h : x.ok) : (Tryd.prog.info? 62).map (·.size) = some x.cells.toArray.size := by rw [List.size_toArray]; exact infoFl h
theorem zO_as {x : Ofr} (h : x.ok) : zO.size = x.cells.toArray.size := zO_size.trans (by rw [List.size_toArray, Ofr.len h])
theorem zL_as {x : Lg} (h : x.ok) : zL.size = x.cells.toArray.size := zL_size.trans (by rw [List.size_toArray, Lg.len h])
theorem zF_as {x : Fw} (h : x.ok) : zF.size = x.cells.toArray.size := zF_size.trans (by rw [List.size_toArray, Fw.len h])
/-- many of them -/
theorem fwat {L : List Fw} (hok : ∀ f ∈ L, f.ok) {j : Nat} {f : Fw} (hj : L[j]? = some f) : Has (L.flatMap Fw.cells) (j * 204) f.cells := by
  induction L generalizing j with
  | nil => simp at hj
  | cons p r ih =>
    cases j with
    | zero =>
      simp only [List.getElem?_cons_zero, Option.some.injEq] at hj
      subst hj
      exact ⟨[], r.flatMap Fw.cells, by simp, by simp⟩
    | succ j =>
      simp only [List.getElem?_cons_succ] at hj
      obtain ⟨A, B, e, hl⟩ := ih (fun x hx => hok x (List.mem_cons_of_mem _ hx)) hj
      refine ⟨p.cells ++ A, B, by rw [List.flatMap_cons, e, List.append_assoc], ?_⟩
      rw [List.length_append, Fw.len (hok p (by simp)), hl, Nat.add_mul]; omega
theorem fwlen {L : List Fw} (hok : ∀ f ∈ L, f.ok) : (L.flatMap Fw.cells).length = L.length * 204 := by
  induction L with
  | nil => rfl
  | cons p r ih => rw [List.flatMap_cons, List.length_append, Fw.len (hok p (by simp)), ih (fun x hx => hok x (List.mem_cons_of_mem _ hx)), List.length_cons, Nat.add_mul]; omega
end Go.Proofs.YthccjefhlmngbaaDoor

/- Legs and forwards can be compared. -/
namespace Go.Proofs.YthccjefhlmngbaaDoor
open Go.RowKit

theorem Has.sub {L P : List Value} {o n : Nat} (h : Has L o P) (hl : P.length = n) : (L.drop o).take n = P := by
  obtain ⟨A, B, rfl, rfl⟩ := h
  rw [List.drop_left, List.take_left' hl]
theorem keyOfr : KeyT 40 3 := ⟨by kernel_rfl, by kernel_rfl, by kernel_rfl, by decide, by kernel_rfl⟩
theorem keyLeg : KeyT 42 4 := ⟨by kernel_rfl, by kernel_rfl, by kernel_rfl, by decide, by kernel_rfl⟩
theorem keyFw : KeyT 62 5 := ⟨by kernel_rfl, by kernel_rfl, by kernel_rfl, by decide, by kernel_rfl⟩
theorem cH : Tryd.prog.cellsOf 27 = 32 := by kernel_rfl
theorem cI : Tryd.prog.cellsOf 3 = 1 := by kernel_rfl
theorem cU : Tryd.prog.cellsOf 28 = 1 := by kernel_rfl
theorem cOf : Tryd.prog.cellsOf 40 = 68 := by kernel_rfl
theorem cLg : Tryd.prog.cellsOf 42 = 69 := by kernel_rfl
theorem cFw : Tryd.prog.cellsOf 62 = 204 := by kernel_rfl
theorem kl_ofr {x : Ofr} (h : x.ok) (d : Nat) : KL (d + 3) 40 x.cells := by
  refine KL.struct (d := d + 2) Tryd.underlying40 (by rw [Ofr.len h]; kernel_rfl) (by kernel_rfl) fun f hf => ?_
  simp only [List.mem_cons, List.not_mem_nil, or_false] at hf
  rcases hf with rfl | rfl | rfl | rfl | rfl | rfl
  · show KL (d + 2) 3 ((x.cells.drop 0).take (Tryd.prog.cellsOf 3))
    rw [cI, x.hasNo.sub (n := 1) rfl]
    exact KL.int (d := d + 1) Tryd.underlying3 h.nw
  · show KL (d + 2) 3 ((x.cells.drop 1).take (Tryd.prog.cellsOf 3))
    rw [cI, x.hasFrm.sub (n := 1) rfl]
    exact KL.int (d := d + 1) Tryd.underlying3 h.fw
  · show KL (d + 2) 27 ((x.cells.drop 2).take (Tryd.prog.cellsOf 27))
    rw [cH, x.hasId.sub (by rw [nums_length, h.il])]
    exact KL.bytes (d := d) Tryd.underlying27 cH h.il h.ib
  · show KL (d + 2) 28 ((x.cells.drop 34).take (Tryd.prog.cellsOf 28))
    rw [cU, (Ofr.hasAm h).sub (n := 1) rfl]
    exact KL.int (d := d + 1) Tryd.underlying28 (u64_wf h.ab)
  · show KL (d + 2) 27 ((x.cells.drop 35).take (Tryd.prog.cellsOf 27))
    rw [cH, (Ofr.hasLock h).sub (by rw [nums_length, h.ll])]
    exact KL.bytes (d := d) Tryd.underlying27 cH h.ll h.lb
  · show KL (d + 2) 3 ((x.cells.drop 67).take (Tryd.prog.cellsOf 3))
    rw [cI, (Ofr.hasTil h).sub (n := 1) rfl]
    exact KL.int (d := d + 1) Tryd.underlying3 h.tw
theorem kl_leg {x : Lg} (h : x.ok) (d : Nat) : KL (d + 4) 42 x.cells := by
  refine KL.struct (d := d + 3) Tryd.underlying42 (by rw [Lg.len h]; kernel_rfl) (by kernel_rfl) fun f hf => ?_
  simp only [List.mem_cons, List.not_mem_nil, or_false] at hf
  rcases hf with rfl | rfl
  · show KL (d + 3) 3 ((x.cells.drop 0).take (Tryd.prog.cellsOf 3))
    rw [cI, x.hasLine.sub (n := 1) rfl]
    exact KL.int (d := d + 2) Tryd.underlying3 h.lw
  · show KL (d + 3) 40 ((x.cells.drop 1).take (Tryd.prog.cellsOf 40))
    rw [cOf, x.hasO.sub (Ofr.len h.o)]
    exact kl_ofr h.o d
theorem kl_fw {x : Fw} (h : x.ok) (d : Nat) : KL (d + 5) 62 x.cells := by
  refine KL.struct (d := d + 4) Tryd.underlying62 (by rw [Fw.len h]; kernel_rfl) (by kernel_rfl) fun f hf => ?_
  simp only [List.mem_cons, List.not_mem_nil, or_false] at hf
  rcases hf with rfl | rfl | rfl | rfl | rfl | rfl
  · show KL (d + 4) 42 ((x.cells.drop 0).take (Tryd.prog.cellsOf 42))
    rw [cLg, x.hasIn.sub (Lg.len h.i)]
    exact kl_leg h.i d
  · show KL (d + 4) 42 ((x.cells.drop 69).take (Tryd.prog.cellsOf 42))
    rw [cLg, (Fw.hasOut h).sub (Lg.len h.o)]
    exact kl_leg h.o d
  · show KL (d + 4) 27 ((x.cells.drop 138).take (Tryd.prog.cellsOf 27))
    rw [cH, (Fw.hasQt h).sub (by rw [nums_length, h.ql])]
    exact KL.bytes (d := d + 2) Tryd.underlying27 cH h.ql h.qb
  · show KL (d + 4) 28 ((x.cells.drop 170).take (Tryd.prog.cellsOf 28))
    rw [cU, (Fw.hasUnits h).sub (n := 1) rfl]
    exact KL.int (d := d + 3) Tryd.underlying28 (u64_wf h.ub)
  · show KL (d + 4) 27 ((x.cells.drop 171).take (Tryd.prog.cellsOf 27))
    rw [cH, (Fw.hasSec h).sub (by rw [nums_length, h.sl])]
    exact KL.bytes (d := d + 2) Tryd.underlying27 cH h.sl h.sb
  · show KL (d + 4) 3 ((x.cells.drop 203).take (Tryd.prog.cellsOf 3))
    rw [cI, (Fw.hasSt h).sub (n := 1) rfl]
    exact KL.int (d := d + 3) Tryd.underlying3 h.sw
theorem kv_leg {x : Lg} (h : x.ok) : KV 42 (.agg x.cells.toArray) := KV.mk keyLeg.wide (by kernel_rfl) (by rw [Lg.len h, cLg]) (fun d => kl_leg h (d + 4))
theorem kv_fw {x : Fw} (h : x.ok) : KV 62 (.agg x.cells.toArray) := KV.mk keyFw.wide (by kernel_rfl) (by rw [Fw.len h, cFw]) (fun d => kl_fw h (d + 3))
theorem leg_self {x : Lg} (h : x.ok) : ∀ w : World, (binOp .neq 42 (.agg x.cells.toArray) (.agg x.cells.toArray)).run Tryd.prog w = .ok (.bool false) w := fun w => by
  have := KeyT.neq keyLeg (kv_leg h) (kv_leg h) (p := True) (by simp) w
  simpa using this
theorem leg_guard (x y : Lg) : ∀ (op : BinOp) (o p : Operand) (w : World), (eqGuard op 42 o p (.agg x.cells.toArray) (.agg y.cells.toArray)).run Tryd.prog w = .ok () w := KeyT.guarded keyLeg _ _
theorem fw_self {x : Fw} (h : x.ok) : ∀ w : World, (binOp .neq 62 (.agg x.cells.toArray) (.agg x.cells.toArray)).run Tryd.prog w = .ok (.bool false) w := fun w => by
  have := KeyT.neq keyFw (kv_fw h) (kv_fw h) (p := True) (by simp) w
  simpa using this
theorem fw_guard (x y : Fw) : ∀ (op : BinOp) (o p : Operand) (w : World), (eqGuard op 62 o p (.agg x.cells.toArray) (.agg y.cells.toArray)).run Tryd.prog w = .ok () w := KeyT.guarded keyFw _ _
end Go.Proofs.YthccjefhlmngbaaDoor

/- edge's find. -/
namespace Go.Proofs.YthccjefhlmngbaaDoor
open Go.RowKit

/-- a forward's leg: on this line, of this number? -/
def legOf (f : Fw) (out : Bool) : Lg := if out then f.out else f.inn
def hitF (line no : Int) (out : Bool) (f : Fw) : Bool := decide ((legOf f out).line = line) && decide ((legOf f out).o.no = no)
set_option maxRecDepth 100000 in
set_option maxHeartbeats 4000000 in
theorem find1_walk (f : Fw) (hf : f.ok) (out : Bool) (line no : Int) (b1 b2 b3 : Nat) (w : World) (c1 : w.cell? ⟨b1, 0, none⟩ = some (.bool out)) (c2 : w.cell? ⟨b2, 0, none⟩ = some (.int .i64 line)) (c3 : w.cell? ⟨b3, 0, none⟩ = some (.int .i64 no)) :
    Calls Tryd.prog 45 #[.agg f.cells.toArray, .pointer (some ⟨b1, 0, none⟩), .pointer (some ⟨b2, 0, none⟩), .pointer (some ⟨b3, 0, none⟩)] w (BoolB w (hitF line no out f)) := by
  have bb := (Below.refl w.heap.size w).alloc (Nat.le_refl _) (.cells f.cells.toArray 62)
  have R0 := row_range (heap_alloc_new w (.cells f.cells.toArray 62))
  have fi := (Fw.hasIn f).rng R0
  have fo := (Fw.hasOut hf).rng R0
  rw [Nat.zero_add] at fi fo
  have k1 := cell_keep bb c1
  have k2 := cell_keep bb c2
  have k3 := cell_keep bb c3
  have HB := hid bb
  have unL := Tryd.underlying42
  have hii := hid (infoLl hf.i)
  have hio := hid (infoLl hf.o)
  have hai := hid (infoLa hf.i)
  have hao := hid (infoLa hf.o)
  have hzi := hid (zL_as hf.i)
  have hzo := hid (zL_as hf.o)
  have hoi := hid (all_oneCell_toArray (Lg.one f.inn))
  have hoo := hid (all_oneCell_toArray (Lg.one f.out))
  have hs2 := hid (show f.inn.cells.toArray.size = f.out.cells.toArray.size by rw [List.size_toArray, List.size_toArray, Lg.len hf.i, Lg.len hf.o])
  have L2 := hid (show b2 < w.heap.size from World.block_lt_of_cell? w _ c2)
  have L3 := hid (show b3 < w.heap.size from World.block_lt_of_cell? w _ c3)
  have ZL := zeroL
  have hneL := zL_ne
  have RES : hitF line no out f = (decide ((legOf f out).line = line) && decide ((legOf f out).o.no = no)) := rfl
  have HRES := hid RES
  generalize hitF line no out f = res at *
  clear bb c1 c2 c3 R0 RES
  go_enter Tryd.func45, Tryd.ntmps45
  go_upto_region 1 with (fail)
  generalize w.alloc (.cells f.cells.toArray 62) = w1 at *
  have LA := laid w1 zL f.inn.cells.toArray 42
  go_upto_region 2 with (first | refine wpList_load_mid rfl _ _ rfl w.heap.size 0 rfl f.inn.cells _ fi unL rfl hii.out ?_ | (with_reducible refine wpList_store_row rfl _ _ _ rfl w1.heap.size f.inn.cells.toArray rfl rfl _ _ (heap_alloc_new w1 _) hai.out hzi.out hoi.out ?_; generalize (w1.alloc (Obj.cells zL 42)).setRow w1.heap.size f.inn.cells.toArray = w2 at *))
  have HL := hid LA.1
  have B2 := hid (bstep HB.out LA.2)
  have b12' := hid (show w.heap.size ≤ w1.heap.size from HB.out.size)
  have q1 := cell_keep LA.2 k1
  have q2 := cell_keep LA.2 k2
  have q3 := cell_keep LA.2 k3
  have fo2 := range_keep LA.2 fo
  clear LA k1 k2 k3 fi fo HB ZL hneL
  obtain ⟨K, hK⟩ : ∃ K, K = w1.heap.size := ⟨_, rfl⟩
  rw [← hK] at HL ⊢
  have HK := hid hK
  clear hK
  obtain ⟨a1, ha1⟩ : ∃ a1, decide ((legOf f out).line = line) = a1 := ⟨_, rfl⟩
  obtain ⟨a2, ha2⟩ : ∃ a2, decide ((legOf f out).o.no = no) = a2 := ⟨_, rfl⟩
  rw [ha1, ha2] at HRES
  cases out with
  | false =>
    have d0 : w2.cell? ⟨K, 0, none⟩ = some (.int .i64 f.inn.line) := by have := (Lg.hasLine f.inn).one (row_range HL.out); exact this
    have d1 : w2.cell? ⟨K, 1, none⟩ = some (.int .i64 f.inn.o.no) := by have := ((Lg.hasO f.inn).trans (Ofr.hasNo _)).one (row_range HL.out); exact this
    have t1 : (f.inn.line == line) = a1 := by rw [← ha1]; rfl
    have t2 : (f.inn.o.no == no) = a2 := by rw [← ha2]; rfl
    clear ha1 ha2 fo2
    cases a1 with
    | false => (go_wp2; go_ret; exact ⟨by rw [HRES.out]; rfl, B2.out⟩)
    | true => (go_wp2; go_ret; exact ⟨by rw [HRES.out]; rfl, B2.out⟩)
  | true =>
    have t1 : (f.out.line == line) = a1 := by rw [← ha1]; rfl
    have t2 : (f.out.o.no == no) = a2 := by rw [← ha2]; rfl
    have HL' := HL.out
    have F2 := hid (far_row w2 K f.out.cells.toArray)
    have H2 := hid (setRow_heap w2 K _ f.out.cells.toArray _ _ HL.out)
    have q2' := far_cell' q2 F2.out (show b2 ≠ K by rw [HK.out]; have := L2.out; have := b12'.out; omega)
    have q3' := far_cell' q3 F2.out (show b3 ≠ K by rw [HK.out]; have := L3.out; have := b12'.out; omega)
    have BF := hid (B2.out.trans (F2.out.below (by rw [HK.out]; exact b12'.out) B2.out.size))
    clear ha1 ha2 q2 q3
    go_upto_region 4 with (first | refine wpList_load_mid rfl _ _ rfl w.heap.size 69 rfl f.out.cells _ fo2 unL rfl hio.out ?_ | (with_reducible refine wpList_store_row rfl _ _ _ rfl K f.out.cells.toArray rfl rfl _ _ HL' hao.out hs2.out hoo.out ?_; generalize w2.setRow K f.out.cells.toArray = w3 at *))
    have d0 : w3.cell? ⟨K, 0, none⟩ = some (.int .i64 f.out.line) := by have := (Lg.hasLine f.out).one (row_range H2.out); exact this
    have d1 : w3.cell? ⟨K, 1, none⟩ = some (.int .i64 f.out.o.no) := by have := ((Lg.hasO f.out).trans (Ofr.hasNo _)).one (row_range H2.out); exact this
    have q2 := q2'
    have q3 := q3'
    clear q2' q3'
    cases a1 with
    | false => (go_wp2; go_ret; exact ⟨by rw [HRES.out]; rfl, BF.out⟩)
    | true => (go_wp2; go_ret; exact ⟨by rw [HRES.out]; rfl, BF.out⟩)
/-- the first that p holds of -/
def IdxAt (L : List Fw) (p : Fw → Bool) (r : Int) : Prop := (r = -1 ∧ ∀ f ∈ L, p f = false) ∨ ∃ (j : Nat) (f : Fw), r = (j : Int) ∧ L[j]? = some f ∧ p f = true ∧ ∀ m g, m < j → L[m]? = some g → p g = false
def Fwds (w : World) (a : Option Addr) (n c : Nat) (L : List Fw) : Prop := L.length = n ∧ Rd w 204 a n c (L.flatMap Fw.cells) ∧ ∀ f ∈ L, f.ok
theorem Fwds.below {w w' : World} {a : Option Addr} {n c : Nat} {L : List Fw} (h : Fwds w a n c L) (hb : Below w.heap.size w w') : Fwds w' a n c L := ⟨h.1, h.2.1.below hb, h.2.2⟩
theorem Fwds.get {w : World} {a : Option Addr} {n c k : Nat} {L : List Fw} (h : Fwds w a n c L) (hk : k < n) : ∃ b off f, a = some ⟨b, off, none⟩ ∧ L[k]? = some f ∧ w.rangeAt b (off + k * 204) f.cells ∧ f.ok := by
  obtain ⟨hl, ⟨_, _, _, _, b, off, ha, hc⟩, hg⟩ := h
  have hkl : k < L.length := by omega
  have e := List.getElem?_eq_getElem hkl
  refine ⟨b, off, L[k], ha (by omega), e, fun j v hj => ?_, hg _ (List.getElem_mem _)⟩
  obtain ⟨A, B, e2, hA⟩ := fwat hg e
  rw [Nat.add_assoc]
  refine hc _ _ ?_
  rw [e2, List.getElem?_append_right (by omega), hA, Nat.add_sub_cancel_left, List.getElem?_append_left (List.getElem?_eq_some_iff.1 hj).1]
  exact hj
def IdxRes (L : List Fw) (p : Fw → Bool) (w : World) (e : Ending) (w' : World) : Prop := ∃ r, e = .returned (.int .i64 r) ∧ IdxAt L p r ∧ Below w.heap.size w w'
set_option maxRecDepth 100000 in
set_option maxHeartbeats 4000000 in
theorem idx_walk (a : Option Addr) (n c : Nat) (L : List Fw) (out : Bool) (line no : Int) (b1 b2 b3 : Nat) (w : World) (hn : n ≤ 4294967296) (h : Fwds w a n c L) (c1 : w.cell? ⟨b1, 0, none⟩ = some (.bool out)) (c2 : w.cell? ⟨b2, 0, none⟩ = some (.int .i64 line)) (c3 : w.cell? ⟨b3, 0, none⟩ = some (.int .i64 no)) :
    Calls Tryd.prog 44 #[.slice a n c, .func (.func 45) #[] #[.pointer (some ⟨b1, 0, none⟩), .pointer (some ⟨b2, 0, none⟩), .pointer (some ⟨b3, 0, none⟩)]] w (IdxRes L (hitF line no out) w) := by
  have H := hid h
  have C1 := hid c1
  have C2 := hid c2
  have C3 := hid c3
  have unF := Tryd.underlying62
  clear h c1 c2 c3
  go_enter Tryd.func44, Tryd.ntmps44
  go_wp2
  go_loopw [8] (fun x8 wr => ∃ k : Nat, k ≤ n ∧ x8 = .int .i64 (k : Int) ∧ (∀ m g, m < k → L[m]? = some g → hitF line no out g = false) ∧ Below w.heap.size w wr) (fun x8 _ => n - (intOf x8).toNat)
  case atStart => exact ⟨0, by omega, rfl, fun m g hm => by omega, Below.refl _ _⟩
  case round =>
    obtain ⟨k, hk, rfl, hno, hb⟩ := hrel
    have HN := hid hno
    have HB := hid hb
    clear hno hb
    by_cases hlt : k < n
    · obtain ⟨b, off, f, ha, hf, row, fok⟩ := (H.out.below HB.out).get hlt
      subst ha
      have HF := hid hf
      have hil := hid (infoFl fok)
      have t1 : decide (k < n) = true := decide_eq_true hlt
      have FOK := hid fok
      have kb : k < 4294967296 := by omega
      clear hf fok
      go_wp2_with (refine wpList_load_mid rfl _ _ rfl b (off + k * 204) rfl f.cells _ row unF rfl hil.out ?_)
      refine (find1_walk f FOK.out out line no b1 b2 b3 wr (cell_keep HB.out C1.out) (cell_keep HB.out C2.out) (cell_keep HB.out C3.out)).mono ?_
      rintro e w2 ⟨rfl, b2'⟩
      have B2 := hid (bstep HB.out b2')
      clear b2' row
      obtain ⟨hh, hhe⟩ : ∃ hh, hitF line no out f = hh := ⟨_, rfl⟩
      rw [hhe]
      have HE := hid hhe
      clear hhe
      cases hh with
      | true =>
        go_wp2
        go_ret
        exact ⟨_, rfl, .inr ⟨k, f, rfl, HF.out, HE.out, HN.out⟩, B2.out⟩
      | false =>
        go_wp2
        go_roundw
        case rel =>
          refine ⟨k + 1, by omega, by go_num, fun m g hm hg => ?_, B2.out⟩
          by_cases e : m = k
          · subst e
            have := HF.out
            rw [hg] at this
            cases this
            exact HE.out
          · exact HN.out m g (by omega) hg
        case measure => simp [intOf]; omega
    · obtain rfl : k = n := by omega
      go_wp2
      go_ret
      refine ⟨_, rfl, .inl ⟨rfl, fun f hf => ?_⟩, HB.out⟩
      obtain ⟨m, hm⟩ := List.getElem?_of_mem hf
      exact HN.out m f (by have := (List.getElem?_eq_some_iff.1 hm).1; have := H.out.1; omega) hm
/-- an edge: its struct's block, its row -/
structure EdgeAt (w : World) (eb tb : Nat) (dl : Int) (B : Nat) (v : Value) (L : List Fw) : Prop where
  cell : w.heap[eb]? = some (.cells #[.int .i64 dl, .pointer (some ⟨tb, 0, none⟩), v] 77 (0, 0))
  own : w.ownsRow B 62 204 v L.length (L.flatMap Fw.cells)
  ok : ∀ f ∈ L, f.ok
  few : L.length ≤ 256
  lt : eb < B
theorem EdgeAt.fwds {w : World} {eb tb B : Nat} {dl : Int} {v : Value} {L : List Fw} (h : EdgeAt w eb tb dl B v L) : ∃ a c, v = .slice a L.length c ∧ Fwds w a L.length c L := by
  obtain ⟨a, c, e, hr⟩ := Rd.of_owns h.own
  exact ⟨a, c, e, rfl, hr, h.ok⟩
theorem EdgeAt.below {w w' : World} {eb tb B : Nat} {dl : Int} {v : Value} {L : List Fw} (h : EdgeAt w eb tb dl B v L) (hb : Below w.heap.size w w') : EdgeAt w' eb tb dl B v L := ⟨heap_keep h.cell hb, own_below h.own hb, h.ok, h.few, h.lt⟩
set_option maxRecDepth 100000 in
set_option maxHeartbeats 4000000 in
theorem find_walk (eb tb B : Nat) (dl : Int) (v : Value) (L : List Fw) (line no : Int) (out : Bool) (w : World) (h : EdgeAt w eb tb dl B v L) :
    Calls Tryd.prog 29 #[.pointer (some ⟨eb, 0, none⟩), .int .i64 line, .int .i64 no, .bool out] w (IdxRes L (hitF line no out) w) := by
  obtain ⟨a, c, rfl, hF⟩ := h.fwds
  have A3 := alloc3p w (.cells #[.int .i64 line] 3) (.cells #[.int .i64 no] 3) (.cells #[.bool out] 4)
  have c1 := hid (gen_cell (j := 0) (row_range (L := [.int .i64 line]) A3.1) rfl)
  have c2 := hid (gen_cell (j := 0) (row_range (L := [.int .i64 no]) A3.2.1) rfl)
  have c3 := hid (gen_cell (j := 0) (row_range (L := [.bool out]) A3.2.2.1) rfl)
  have B1 := hid A3.2.2.2
  have h1 := h.below A3.2.2.2
  have HF := hid (hF.below A3.2.2.2)
  have few := h.few
  have e2 := gen_cell (j := 2) (row_range (L := [.int .i64 dl, .pointer (some ⟨tb, 0, none⟩), .slice a L.length c]) h1.cell) rfl
  have hmf : ∀ (fn : Fn) (first cap : Array Value) (w : World), (Instr.makeFunc fn first cap).run Tryd.prog w = .ok (.func fn first cap) w := fun _ _ _ _ => rfl
  clear A3 h1 h hF
  go_enter Tryd.func29, Tryd.ntmps29
  go_upto_region 1 with (fail)
  generalize ((w.alloc (.cells #[.int .i64 line] 3)).alloc (.cells #[.int .i64 no] 3)).alloc (.cells #[.bool out] 4) = w1 at *
  go_wp2_with (fail)
  refine (idx_walk a L.length c L out line no (w.heap.size + 1 + 1) w.heap.size (w.heap.size + 1) w1 (by omega) HF.out c3.out c1.out c2.out).mono ?_
  rintro e w2 ⟨r, rfl, hi, b2⟩
  have HI := hid hi
  have B2 := hid (bstep B1.out b2)
  clear hi b2
  go_wp2
  go_ret
  exact ⟨r, rfl, HI.out, B2.out⟩
end Go.Proofs.YthccjefhlmngbaaDoor

/- All but some blocks is as it was. -/
namespace Go.Proofs.YthccjefhlmngbaaDoor
open Go.RowKit

structure Keep (S : Nat → Prop) (w w' : World) : Prop where
  os : w'.os = w.os
  tape : w'.tape = w.tape
  output : w'.output = w.output
  size : w.heap.size ≤ w'.heap.size
  block : ∀ i, i < w.heap.size → ¬ S i → w'.heap[i]? = w.heap[i]?
section
variable {S R : Nat → Prop} {u v w w' : World}
theorem Keep.refl (S : Nat → Prop) (w : World) : Keep S w w := ⟨rfl, rfl, rfl, Nat.le_refl _, fun _ _ _ => rfl⟩
theorem Keep.trans (h : Keep S u v) (k : Keep S v w) : Keep S u w := ⟨k.os.trans h.os, k.tape.trans h.tape, k.output.trans h.output, Nat.le_trans h.size k.size, fun i hi hn => (k.block i (Nat.lt_of_lt_of_le hi h.size) hn).trans (h.block i hi hn)⟩
theorem Keep.mono (h : Keep S u v) (hs : ∀ i, S i → R i) : Keep R u v := ⟨h.os, h.tape, h.output, h.size, fun i hi hn => h.block i hi (fun hh => hn (hs i hh))⟩
/-- what is new besides is nothing to what was -/
theorem Keep.then (h : Keep S u v) (k : Keep R v w) (hs : ∀ i, i < u.heap.size → R i → S i) : Keep S u w := ⟨k.os.trans h.os, k.tape.trans h.tape, k.output.trans h.output, Nat.le_trans h.size k.size, fun i hi hn => (k.block i (Nat.lt_of_lt_of_le hi h.size) (fun hh => hn (hs i hi hh))).trans (h.block i hi hn)⟩
theorem Keep.of (h : Below w.heap.size w w') : Keep S w w' := ⟨h.os, h.tape, h.output, h.size, fun i hi _ => h.block i hi⟩
theorem Keep.far {H : Nat} (h : Far H w w') (hs : S H) : Keep S w w' := ⟨h.os, h.tape, h.output, h.size, fun i hi hn => h.block i hi (fun e => hn (by cases e; exact hs))⟩
theorem Keep.far' {H : Nat} (h : Far H w w') : Keep (fun i => i = H) w w' := Keep.far h rfl
theorem Keep.grown {row : Option Nat} (h : w.grownBy w' row) (hs : ∀ i, row = some i → S i) : Keep S w w' := ⟨h.os, h.tape, h.output, h.size, fun i hi hn => h.block i hi (fun e => hn (hs i e.symm))⟩
theorem Keep.below {B : Nat} (h : Keep S w w') (hs : ∀ i, S i → B ≤ i) (hB : B ≤ w.heap.size) : Below B w w' := ⟨h.os, h.tape, h.output, h.size, fun i hi => h.block i (by omega) (fun hh => by have := hs i hh; omega)⟩
theorem Keep.heap {g : Nat} {x : Obj} (h : Keep S w w') (hx : w.heap[g]? = some x) (hn : ¬ S g) : w'.heap[g]? = some x := by rw [h.block g (Array.getElem?_eq_some_iff.1 hx).1 hn]; exact hx
theorem Keep.cell {a : Addr} {x : Value} (h : Keep S w w') (hx : w.cell? a = some x) (hn : ¬ S a.block) : w'.cell? a = some x := by
  rw [World.cell?_of_block (h.block _ (World.block_lt_of_cell? w _ hx) hn)]; exact hx
theorem Keep.range {g o : Nat} {L : List Value} (h : Keep S w w') (hr : w.rangeAt g o L) (hn : ¬ S g) : w'.rangeAt g o L := fun j x hj => h.cell (hr j x hj) hn
theorem Keep.own {B : Nat} {e : TypeId} {size : Nat} {x : Value} {n : Nat} {xs : List Value} (h : Keep S w w') (ho : w.ownsRow B e size x n xs) (hn : ∀ g, x.ownBlock = some g → ¬ S g) : w'.ownsRow B e size x n xs := by
  refine ⟨ho.1, ?_⟩
  rcases ho.2 with hv | ⟨g, cap, cur, rfl, hb0, hg, rest⟩
  · exact .inl hv
  · exact .inr ⟨g, cap, cur, rfl, hb0, by rw [h.block g (Array.getElem?_eq_some_iff.1 hg).1 (hn g rfl)]; exact hg, rest⟩
theorem MapIs.keep {k : TypeId} {α : Type} {E : KeyE k α} {b n : Nat} {M : α → Option Value} (h : MapIs E w b M n) (hk : Keep S w w') (hn : ¬ S b) : MapIs E w' b M n := by
  have hl := h.lt
  obtain ⟨D, ⟨es, clock, hb1, rest⟩, k2⟩ := h
  exact ⟨D, ⟨es, clock, (hk.block b hl hn).trans hb1, rest⟩, k2⟩
end
/-- 'append(s, x)': s nil or the call's own; where the row lies then, and what else stays -/
theorem wpList_pushK {P : Program} {ops : Array Oper} {rest : List Oper} {o : Oper} {a : Act} {Q : Exit → Act → World → Prop} {w : World} (hgd : o.guard = none) (s x : Operand) (t : TypeId)
    (ho : o.op = .call { callee := .builtin .append, args := #[s, x], argTypes := #[t, t] })
    {e : TypeId} {size bytes : Nat} {z : Value} (ty : SliceTy P t e size bytes z) (B : Nat) {v : Value} {n : Nat} {xs : List Value} (hown : w.ownsRow B e size v n xs) (hs : a.eval s = v)
    {us : Array Value} {et : TypeId} (hx : a.eval x = .slice (some ⟨w.heap.size, 0, none⟩) 1 1) (hl : us.size = size) (h1 : us.toList.all Value.oneCell' = true) (hn : n < 4294967296) (hby : bytes ≤ 16384) (hB : B ≤ w.heap.size)
    (h : ∀ v' w', w'.ownsRow B e size v' (n + 1) (xs ++ us.toList) → Keep (fun i => v.ownBlock = some i) w w' → (v'.ownBlock = v.ownBlock ∨ v'.ownBlock = some (w.heap.size + 1)) → wpList P ops Q rest (a.put o.dst v') w') : wpList P ops Q (o :: rest) a (w.alloc (.cells us et)) := by
  obtain ⟨i, ht, hi, hz, hsz, hb⟩ := ty.ex
  refine wpList_append_own_at _ hgd s x t ho B e i z size bytes ht hi hz hsz hb ty.zs ty.pos v n xs hs (hown.alloc _) ⟨w.heap.size, 0, none⟩ 1 1 us.toList hx (by simp [hl]) (cells_new w us et) (fun u hu => List.all_eq_true.1 h1 u hu) ?_ ?_ (by simp; omega) ?_
  · unfold maxLen; omega
  · have : (n + 1) * bytes ≤ 4294967296 * 16384 := Nat.mul_le_mul (by omega) hby
    omega
  · intro v' w' h2 h3 _ h5
    refine h v' w' h2 ?_ (by simpa using h5)
    exact (Keep.of (S := fun i => v.ownBlock = some i) ((Below.refl w.heap.size w).alloc (Nat.le_refl _) _)).trans (Keep.grown h3 (fun i hi => hi))
/-- .. in a region that draws its order -/
theorem wp_pushK {P : Program} {o : Oper} {a : Act} {K : Act → World → Prop} {Q : Exit → Act → World → Prop} {w : World} (s x : Operand) (t : TypeId)
    (ho : o.op = .call { callee := .builtin .append, args := #[s, x], argTypes := #[t, t] })
    {e : TypeId} {size bytes : Nat} {z : Value} (ty : SliceTy P t e size bytes z) (B : Nat) {v : Value} {n : Nat} {xs : List Value} (hown : w.ownsRow B e size v n xs) (hs : a.eval s = v)
    {g : Nat} {us : List Value} {et : TypeId} (hx : a.eval x = .slice (some ⟨g, 0, none⟩) 1 1) (hg : w.heap[g]? = some (.cells us.toArray et (0, 0))) (hl : us.length = size) (h1 : ∀ u ∈ us, u.oneCell' = true) (hn : n < 4294967296) (hby : bytes ≤ 16384) (hB : B ≤ w.heap.size)
    (h : ∀ v' w', w'.ownsRow B e size v' (n + 1) (xs ++ us) → Keep (fun i => v.ownBlock = some i) w w' → (v'.ownBlock = v.ownBlock ∨ v'.ownBlock = some w.heap.size) → K (a.put o.dst v') w') : o.wp P a w K Q := by
  obtain ⟨i, ht, hi, hz, hsz, hb⟩ := ty.ex
  have hadd : ∀ q, (⟨g, 0, none⟩ : Addr).add q = ⟨g, q, none⟩ := fun q => by unfold Addr.add; split <;> simp_all
  have hnews : ∀ j y, us[j]? = some y → w.cell? ((⟨g, 0, none⟩ : Addr).add j) = some y := by
    intro j y hj
    rw [hadd, cell_of_row _ g _ _ et (0, 0) hg, List.getElem?_toArray]; exact hj
  have hbytes : (n + 1) * bytes ≤ 140737488355328 := by
    have : (n + 1) * bytes ≤ 4294967296 * 16384 := Nat.mul_le_mul (by omega) hby
    omega
  obtain ⟨v', w', hr, h2, h3, _, h5⟩ := run_append_own_at (P := P) w B t o.type e i z size bytes ht hi hz hsz hb ty.zs ty.pos v n xs hown ⟨g, 0, none⟩ 1 1 us (by simp [hl]) hnews h1 (by unfold maxLen; omega) hbytes hB
  unfold Oper.wp execOp
  simp only [ho, resolve, invoke, builtin, Sem.run_bind, Sem.run_pure, Result.andThen_ok, List.map_toArray, List.map_cons, List.map_nil, hs, hx, hr]
  exact h v' w' h2 (Keep.grown h3 (fun i hi => hi)) h5
theorem wp_lit1 {P : Program} {o : Oper} {a : Act} {w : World} {K : Act → World → Prop} {Q : Exit → Act → World → Prop} (t e : TypeId) (x : Operand) (ho : o.op = .buildSlice t 1 #[(0, x)])
    {cells : Array Value} (hx : a.eval x = .agg cells) (hu : P.underlying t = some (.slice e)) {size : Nat} (hi : (P.info? e).map (·.size) = some size) (hz : ((P.info? e).bind (·.zero)).isSome = true) (hs : cells.size = size) (hp : 0 < size) (hle : size ≤ 16777216)
    (h : K (a.put o.dst (.slice (some ⟨w.heap.size, 0, none⟩) 1 1)) (w.alloc (.cells cells e))) : o.wp P a w K Q := by
  cases hie : P.info? e with
  | none => simp [hie] at hi
  | some ie =>
    simp only [hie, Option.map_some, Option.some.injEq, Option.bind_some] at hi hz
    obtain ⟨z, hzz⟩ := Option.isSome_iff_exists.1 hz
    refine wp_buildSlice t e 1 _ ho cells ie z hu hie hzz (by rw [hi]; omega) (by rw [hi]; omega) ?_ h
    have := Great.fill_whole (s := size) hp [.agg cells] ((Array.range (1 * size)).map (z.cells[· % z.cells.size]!)) (by intro v hv; simp at hv; subst hv; exact hs) (by simp)
    rw [hi]
    simpa [hx, Value.cells] using this
end Go.Proofs.YthccjefhlmngbaaDoor

/- An edge and its table. -/
namespace Go.Proofs.YthccjefhlmngbaaDoor
open Go.RowKit

theorem TabAt.keep {S : Nat → Prop} {w w' : World} {tb mb n : Nat} {M : QM} (h : TabAt w tb mb M n) (hk : Keep S w w') (h1 : ¬ S tb) (h2 : ¬ S mb) : TabAt w' tb mb M n := ⟨hk.cell h.cell h1, h.map.keep hk h2, h.ok, h.small, h.ne⟩
structure Shop (w : World) (eb tb mb : Nat) (dl : Int) (B : Nat) (v : Value) (L : List Fw) (M : QM) (n : Nat) : Prop where
  e : EdgeAt w eb tb dl B v L
  t : TabAt w tb mb M n
  ne : eb ≠ tb ∧ eb ≠ mb
  lt : tb < B ∧ mb < B ∧ B ≤ w.heap.size
/-- what a call may change -/
def ShopS (eb mb : Nat) (v : Value) (i : Nat) : Prop := i = eb ∨ i = mb ∨ v.ownBlock = some i
def Newer (w : World) (v v' : Value) : Prop := v'.ownBlock = v.ownBlock ∨ ∀ g, v'.ownBlock = some g → w.heap.size ≤ g
theorem Newer.refl (w : World) (v : Value) : Newer w v v := .inl rfl
theorem Shop.below {w w' : World} {eb tb mb : Nat} {dl : Int} {B : Nat} {v : Value} {L : List Fw} {M : QM} {n : Nat} (h : Shop w eb tb mb dl B v L M n) (hb : Below w.heap.size w w') : Shop w' eb tb mb dl B v L M n :=
  ⟨h.e.below hb, h.t.below hb, h.ne, h.lt.1, h.lt.2.1, Nat.le_trans h.lt.2.2 hb.size⟩
/-- the table's call changed the table alone -/
theorem Shop.tab {w w' : World} {eb tb mb : Nat} {dl : Int} {B : Nat} {v : Value} {L : List Fw} {M M' : QM} {n n' : Nat} (h : Shop w eb tb mb dl B v L M n) (ht : TabAt w' tb mb M' n') (hf : Far mb w w') : Shop w' eb tb mb dl B v L M' n' :=
  ⟨⟨heap_far h.e.cell hf h.ne.2, Far.own h.e.own hf (fun e => by have := (h.e.own.lt _ e).1; have := h.lt; omega), h.e.ok, h.e.few, h.e.lt⟩, ht, h.ne, h.lt.1, h.lt.2.1, Nat.le_trans h.lt.2.2 hf.size⟩
/-- what was changed is none of its own -/
theorem Shop.kept {S : Nat → Prop} {w w' : World} {eb tb mb : Nat} {dl : Int} {B : Nat} {v : Value} {L : List Fw} {M : QM} {n : Nat} (h : Shop w eb tb mb dl B v L M n) (k : Keep S w w') (hs : ∀ i, S i → B ≤ i) (hr : ∀ g, v.ownBlock = some g → ¬ S g) : Shop w' eb tb mb dl B v L M n :=
  ⟨⟨k.heap h.e.cell (fun hh => by have := hs _ hh; have := h.e.lt; omega), k.own h.e.own hr, h.e.ok, h.e.few, h.e.lt⟩, h.t.keep k (fun hh => by have := hs _ hh; have := h.lt; omega) (fun hh => by have := hs _ hh; have := h.lt; omega), h.ne, h.lt.1, h.lt.2.1, Nat.le_trans h.lt.2.2 k.size⟩
theorem Shop.fresh {H : Nat} {w w' : World} {eb tb mb : Nat} {dl : Int} {B : Nat} {v : Value} {L : List Fw} {M : QM} {n : Nat} (h : Shop w eb tb mb dl B v L M n) (k : Far H w w') (hs : B ≤ H) (hr : ∀ g, v.ownBlock = some g → g ≠ H) : Shop w' eb tb mb dl B v L M n :=
  h.kept (Keep.far' k) (fun i hi => by subst hi; exact hs) hr
theorem resM_bad {w : World} {tb mb n : Nat} {M : QM} {no : List Nat} {r : Quo × Nat} (h : r.2 ≠ 0) (t : TabAt w tb mb (resM M no r) n) : TabAt w tb mb M n := by unfold resM at t; rwa [if_neg h] at t
theorem resM_good {w : World} {tb mb n : Nat} {M : QM} {no : List Nat} {r : Quo × Nat} (h : r.2 = 0) (t : TabAt w tb mb (resM M no r) n) : TabAt w tb mb (updM M no r.1) n := by unfold resM at t; rwa [if_pos h] at t
theorem Quo.id_at {x : Quo} (h : x.ok) : (x.cells.drop 32).take 32 = nums .u8 x.id := by
  unfold Quo.cells
  rw [List.append_assoc, List.drop_left' (by rw [nums_length, h.nl]), List.take_left' (by rw [nums_length, h.il])]
theorem isH_walk (n : Int) (w : World) : Calls Tryd.prog 28 #[.int .i64 n] w fun e w' => e = .returned (.bool (decide (0 ≤ n) && decide (n ≤ 1073741824))) ∧ w = w' := by
  by_cases h1 : 0 ≤ n
  · have t1 : decide (n ≥ 0) = true := decide_eq_true h1
    have t1' : decide (0 ≤ n) = true := decide_eq_true h1
    rw [t1']
    go_enter Tryd.func28, Tryd.ntmps28
    go_wp2
    go_ret
    exact ⟨rfl, rfl⟩
  · have t1 : decide (n ≥ 0) = false := decide_eq_false h1
    have t1' : decide (0 ≤ n) = false := decide_eq_false h1
    rw [t1']
    go_enter Tryd.func28, Tryd.ntmps28
    go_wp2
    go_ret
    exact ⟨rfl, rfl⟩
end Go.Proofs.YthccjefhlmngbaaDoor

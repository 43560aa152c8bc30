/- Steps of chapter 21. -/
import Derived.Test.YthccjefhlmngbaaDoorEg3
namespace Go.Proofs.YthccjefhlmngbaaDoor
open Go.RowKit

structure Ed where
  k : Int
  inn : Lg
  out : Lg
  no : List Nat
  h : Int
  line : Int
  n : Int
  sec : List Nat
def Ed.cells (x : Ed) : List Value := .int .i64 x.k :: (x.inn.cells ++ (x.out.cells ++ (nums .u8 x.no ++ ([.int .i64 x.h, .int .i64 x.line, .int .i64 x.n] ++ nums .u8 x.sec))))
structure Ed.ok (x : Ed) : Prop where
  kw : (Lit.int .i64 x.k).wf = true
  i : x.inn.ok
  o : x.out.ok
  no : EH.ok x.no
  hw : (Lit.int .i64 x.h).wf = true
  lw : (Lit.int .i64 x.line).wf = true
  nw : (Lit.int .i64 x.n).wf = true
  sec : EH.ok x.sec
theorem Ed.len {x : Ed} (h : x.ok) : x.cells.length = 206 := by simp [Ed.cells, Lg.len h.i, Lg.len h.o, h.no.1, h.sec.1]
theorem Ed.one (x : Ed) : ∀ v ∈ x.cells, v.oneCell' = true := by
  intro v hv
  simp only [Ed.cells, List.mem_append, List.mem_cons, List.not_mem_nil, or_false] at hv
  rcases hv with rfl | hv | hv | hv | (rfl | rfl | rfl) | hv
  · rfl
  · exact Lg.one _ v hv
  · exact Lg.one _ v hv
  · exact nums_oneCell _ _ v hv
  · rfl
  · rfl
  · rfl
  · exact nums_oneCell _ _ v hv
theorem Ed.hasK (x : Ed) : Has x.cells 0 [.int .i64 x.k] := ⟨[], _, rfl, rfl⟩
theorem Ed.hasIn (x : Ed) : Has x.cells 1 x.inn.cells := ⟨[.int .i64 x.k], _, rfl, rfl⟩
theorem Ed.hasOut {x : Ed} (h : x.ok) : Has x.cells 70 x.out.cells := ⟨.int .i64 x.k :: x.inn.cells, nums .u8 x.no ++ ([.int .i64 x.h, .int .i64 x.line, .int .i64 x.n] ++ nums .u8 x.sec), by simp [Ed.cells], by simp [Lg.len h.i]⟩
theorem Ed.hasNo {x : Ed} (h : x.ok) : Has x.cells 139 (nums .u8 x.no) := ⟨.int .i64 x.k :: x.inn.cells ++ x.out.cells, [.int .i64 x.h, .int .i64 x.line, .int .i64 x.n] ++ nums .u8 x.sec, by simp [Ed.cells], by simp [Lg.len h.i, Lg.len h.o]⟩
theorem Ed.hasT {x : Ed} (h : x.ok) : Has x.cells 171 ([.int .i64 x.h, .int .i64 x.line, .int .i64 x.n] ++ nums .u8 x.sec) := ⟨.int .i64 x.k :: x.inn.cells ++ x.out.cells ++ nums .u8 x.no, [], by simp [Ed.cells], by simp [Lg.len h.i, Lg.len h.o, h.no.1]⟩
theorem Ed.hasH {x : Ed} (h : x.ok) : Has x.cells 171 [.int .i64 x.h] := (Ed.hasT h).trans (k := 0) ⟨[], _, rfl, rfl⟩
theorem Ed.hasLine {x : Ed} (h : x.ok) : Has x.cells 172 [.int .i64 x.line] := (Ed.hasT h).trans (k := 1) ⟨[.int .i64 x.h], _, rfl, rfl⟩
theorem Ed.hasN {x : Ed} (h : x.ok) : Has x.cells 173 [.int .i64 x.n] := (Ed.hasT h).trans (k := 2) ⟨[.int .i64 x.h, .int .i64 x.line], _, rfl, rfl⟩
theorem Ed.hasSec {x : Ed} (h : x.ok) : Has x.cells 174 (nums .u8 x.sec) := (Ed.hasT h).trans (k := 3) ⟨[.int .i64 x.h, .int .i64 x.line, .int .i64 x.n], [], by simp, rfl⟩
def Eds (w : World) (a : Option Addr) (l c : Nat) (es : List Ed) : Prop := es.length = l ∧ Rd w 206 a l c (es.flatMap Ed.cells) ∧ ∀ e ∈ es, e.ok
theorem Eds.below {w w' : World} {a : Option Addr} {l c : Nat} {es : List Ed} (h : Eds w a l c es) (hb : Below w.heap.size w w') : Eds w' a l c es := ⟨h.1, h.2.1.below hb, h.2.2⟩
theorem edat {L : List Ed} (hok : ∀ f ∈ L, f.ok) {j : Nat} {f : Ed} (hj : L[j]? = some f) : Has (L.flatMap Ed.cells) (j * 206) f.cells := by
  induction L generalizing j with
  | nil => simp at hj
  | cons p r ih =>
    cases j with
    | zero =>
      simp only [List.getElem?_cons_zero, Option.some.injEq] at hj
      subst hj
      exact ⟨[], r.flatMap Ed.cells, by simp, by simp⟩
    | succ j =>
      simp only [List.getElem?_cons_succ] at hj
      obtain ⟨A, B, e, hl⟩ := ih (fun x hx => hok x (List.mem_cons_of_mem _ hx)) hj
      refine ⟨p.cells ++ A, B, by rw [List.flatMap_cons, e, List.append_assoc], ?_⟩
      rw [List.length_append, Ed.len (hok p (by simp)), hl, Nat.add_mul]; omega
theorem Eds.get {w : World} {a : Option Addr} {n c k : Nat} {L : List Ed} (h : Eds w a n c L) (hk : k < n) : ∃ b off f, a = some ⟨b, off, none⟩ ∧ L[k]? = some f ∧ w.rangeAt b (off + k * 206) f.cells ∧ f.ok := by
  obtain ⟨hl, ⟨_, _, _, _, b, off, ha, hc⟩, hg⟩ := h
  have hkl : k < L.length := by omega
  have e := List.getElem?_eq_getElem hkl
  refine ⟨b, off, L[k], ha (by omega), e, fun j v hj => ?_, hg _ (List.getElem_mem _)⟩
  obtain ⟨A, B, e2, hA⟩ := edat hg e
  rw [Nat.add_assoc]
  refine hc _ _ ?_
  rw [e2, List.getElem?_append_right (by omega), hA, Nat.add_sub_cancel_left, List.getElem?_append_left (List.getElem?_eq_some_iff.1 hj).1]
  exact hj
def ez : Ed := ⟨0, lz, lz, hz32, 0, 0, 0, hz32⟩
theorem ez_ok : ez.ok := ⟨by decide, lz_ok, lz_ok, ⟨hz32_ok.1, hz32_ok.2⟩, by decide, by decide, by decide, ⟨hz32_ok.1, hz32_ok.2⟩⟩
def zE : Array Value := ez.cells.toArray
theorem zE_size : zE.size = 206 := by unfold zE; rw [List.size_toArray]; exact Ed.len ez_ok
theorem zE_ne : ¬ zE = #[] := by intro e; have := zE_size; rw [e] at this; exact absurd this (by decide)
theorem zeroE : ∀ w : World, (zeroValue 60).run Tryd.prog w = .ok (.agg zE) w := zv_of (by kernel_rfl)
theorem zE_as {x : Ed} (h : x.ok) : zE.size = x.cells.toArray.size := zE_size.trans (by rw [List.size_toArray, Ed.len h])
theorem infoEl {x : Ed} (h : x.ok) : (Tryd.prog.info? 60).map (·.size) = some x.cells.length := by rw [Ed.len h]; kernel_rfl
theorem infoEa {x : Ed} (h : x.ok) : (Tryd.prog.info? 60).map (·.size) = some x.cells.toArray.size := by rw [List.size_toArray]; exact infoEl h
end Go.Proofs.YthccjefhlmngbaaDoor

/- What lists of quotes and of steps read as; EdgeKeeps for the frame. -/
import Derived.Test.YthccjefhlmngbaaDoorOpenH
import Derived.Test.YthccjefhlmngbaaDoorKep
namespace Go.Proofs.YthccjefhlmngbaaDoor
open Go.ChangeShapes Go.WideShapes Go.ChangeAt Go.RowKit

section
variable {H : Type} {enc : TypeId × Value → H} {P : Program} {W : World}
theorem opens_struct8 {t : TypeId} {f0 f1 f2 f3 f4 f5 f6 f7 : Field} {α0 α1 α2 α3 α4 α5 α6 α7 : Type} {c0 : α0 → List Value} {g0 : α0 → Prop} {s0 : Nat} {c1 : α1 → List Value} {g1 : α1 → Prop} {s1 : Nat} {c2 : α2 → List Value} {g2 : α2 → Prop} {s2 : Nat} {c3 : α3 → List Value} {g3 : α3 → Prop} {s3 : Nat} {c4 : α4 → List Value} {g4 : α4 → Prop} {s4 : Nat} {c5 : α5 → List Value} {g5 : α5 → Prop} {s5 : Nat} {c6 : α6 → List Value} {g6 : α6 → Prop} {s6 : Nat} {c7 : α7 → List Value} {g7 : α7 → Prop} {s7 : Nat} (ht : P.underlying t = some (.struct #[f0, f1, f2, f3, f4, f5, f6, f7])) (h0 : Opens enc P W f0.type c0 g0) (z0 : P.cellsOf f0.type = s0) (h1 : Opens enc P W f1.type c1 g1) (z1 : P.cellsOf f1.type = s1) (h2 : Opens enc P W f2.type c2 g2) (z2 : P.cellsOf f2.type = s2) (h3 : Opens enc P W f3.type c3 g3) (z3 : P.cellsOf f3.type = s3) (h4 : Opens enc P W f4.type c4 g4) (z4 : P.cellsOf f4.type = s4) (h5 : Opens enc P W f5.type c5 g5) (z5 : P.cellsOf f5.type = s5) (h6 : Opens enc P W f6.type c6 g6) (z6 : P.cellsOf f6.type = s6) (h7 : Opens enc P W f7.type c7 g7) (z7 : P.cellsOf f7.type = s7) (o0 : f0.offset = 0) (o1 : f1.offset = s0) (o2 : f2.offset = s0 + s1) (o3 : f3.offset = s0 + s1 + s2) (o4 : f4.offset = s0 + s1 + s2 + s3) (o5 : f5.offset = s0 + s1 + s2 + s3 + s4) (o6 : f6.offset = s0 + s1 + s2 + s3 + s4 + s5) (o7 : f7.offset = s0 + s1 + s2 + s3 + s4 + s5 + s6) (hz : P.cellsOf t = s0 + s1 + s2 + s3 + s4 + s5 + s6 + s7) :
    Opens enc P W t (fun x : α0 × α1 × α2 × α3 × α4 × α5 × α6 × α7 => c0 x.1 ++ c1 x.2.1 ++ c2 x.2.2.1 ++ c3 x.2.2.2.1 ++ c4 x.2.2.2.2.1 ++ c5 x.2.2.2.2.2.1 ++ c6 x.2.2.2.2.2.2.1 ++ c7 x.2.2.2.2.2.2.2) (fun x => g0 x.1 ∧ g1 x.2.1 ∧ g2 x.2.2.1 ∧ g3 x.2.2.2.1 ∧ g4 x.2.2.2.2.1 ∧ g5 x.2.2.2.2.2.1 ∧ g6 x.2.2.2.2.2.2.1 ∧ g7 x.2.2.2.2.2.2.2) := by
  intro fuel cs d p hf hw
  obtain ⟨ys, m, _, hx, hl, hlen, hg⟩ := DataW.trod_struct ht hf
  rw [hz] at hl
  match ys, hlen with
  | [y0, y1, y2, y3, y4, y5, y6, y7], _ =>
    simp only [Prod.mk.injEq] at hx
    have hw' : ∀ k ∈ DataW.weightsEach P [f0.type, f1.type, f2.type, f3.type, f4.type, f5.type, f6.type, f7.type] [y0.1, y1.1, y2.1, y3.1, y4.1, y5.1, y6.1, y7.1], k ≤ reachBytes := fun k hk => hw k (by rw [hx.1]; simpa [DataW.weights, ht] using hk)
    simp only [DataW.weightsEach, List.mem_append, List.append_nil] at hw'
    have e0 := hg 0 f0 rfl
    rw [o0, z0] at e0
    obtain ⟨x0, k0, q0⟩ := h0 m _ y0.1 y0.2 (by simpa using e0) (fun k hk => hw' k (.inl hk))
    have e1 := hg 1 f1 rfl
    rw [o1, z1] at e1
    obtain ⟨x1, k1, q1⟩ := h1 m _ y1.1 y1.2 (by simpa using e1) (fun k hk => hw' k (.inr (.inl hk)))
    have e2 := hg 2 f2 rfl
    rw [o2, z2] at e2
    obtain ⟨x2, k2, q2⟩ := h2 m _ y2.1 y2.2 (by simpa using e2) (fun k hk => hw' k (.inr (.inr (.inl hk))))
    have e3 := hg 3 f3 rfl
    rw [o3, z3] at e3
    obtain ⟨x3, k3, q3⟩ := h3 m _ y3.1 y3.2 (by simpa using e3) (fun k hk => hw' k (.inr (.inr (.inr (.inl hk)))))
    have e4 := hg 4 f4 rfl
    rw [o4, z4] at e4
    obtain ⟨x4, k4, q4⟩ := h4 m _ y4.1 y4.2 (by simpa using e4) (fun k hk => hw' k (.inr (.inr (.inr (.inr (.inl hk))))))
    have e5 := hg 5 f5 rfl
    rw [o5, z5] at e5
    obtain ⟨x5, k5, q5⟩ := h5 m _ y5.1 y5.2 (by simpa using e5) (fun k hk => hw' k (.inr (.inr (.inr (.inr (.inr (.inl hk)))))))
    have e6 := hg 6 f6 rfl
    rw [o6, z6] at e6
    obtain ⟨x6, k6, q6⟩ := h6 m _ y6.1 y6.2 (by simpa using e6) (fun k hk => hw' k (.inr (.inr (.inr (.inr (.inr (.inr (.inl hk))))))))
    have e7 := hg 7 f7 rfl
    rw [o7, z7] at e7
    obtain ⟨x7, k7, q7⟩ := h7 m _ y7.1 y7.2 (by simpa using e7) (fun k hk => hw' k (.inr (.inr (.inr (.inr (.inr (.inr (.inr hk))))))))
    refine ⟨(x0, x1, x2, x3, x4, x5, x6, x7), ?_, q0, q1, q2, q3, q4, q5, q6, q7⟩
    show cs = c0 x0 ++ c1 x1 ++ c2 x2 ++ c3 x3 ++ c4 x4 ++ c5 x5 ++ c6 x6 ++ c7 x7
    rw [← k0, ← k1, ← k2, ← k3, ← k4, ← k5, ← k6, ← k7]
    rw [← List.take_add, ← List.take_add, ← List.take_add, ← List.take_add, ← List.take_add, ← List.take_add, ← List.take_add]
    exact (List.take_of_length_le (by omega)).symm
end
theorem opens_rate {H : Type} {enc : TypeId × Value → H} {W : World} : Opens enc Tryd.prog W 30 (fun x : Nat × Nat => [Value.int .u64 (x.1 : Int)] ++ [Value.int .u64 (x.2 : Int)]) (fun x => x.1 < 18446744073709551616 ∧ x.2 < 18446744073709551616) :=
  opens_struct2 Tryd.underlying30 (opens_nat (fun _ => u64_nat) Tryd.underlying28) (s0 := 1) (by kernel_rfl) (opens_nat (fun _ => u64_nat) Tryd.underlying28) (s1 := 1) (by kernel_rfl) rfl rfl (by kernel_rfl)
theorem opens_qd5 {H : Type} {enc : TypeId × Value → H} {W : World} : Opens enc Tryd.prog W 32 (fun x : List Nat × Bool × Nat × (Nat × Nat) × Int => nums .u8 x.1 ++ [Value.bool x.2.1] ++ [Value.int .u64 (x.2.2.1 : Int)] ++ ([Value.int .u64 (x.2.2.2.1.1 : Int)] ++ [Value.int .u64 (x.2.2.2.1.2 : Int)]) ++ [Value.int .i64 x.2.2.2.2])
    (fun x => (x.1.length = 32 ∧ ∀ d ∈ x.1, d < 256) ∧ True ∧ x.2.2.1 < 18446744073709551616 ∧ (x.2.2.2.1.1 < 18446744073709551616 ∧ x.2.2.2.1.2 < 18446744073709551616) ∧ (Lit.int .i64 x.2.2.2.2).wf = true) :=
  opens_struct5 Tryd.underlying32 opens_digest (s0 := 32) (by kernel_rfl) (opens_bool Tryd.underlying4) (s1 := 1) (by kernel_rfl) (opens_nat (fun _ => u64_nat) Tryd.underlying28) (s2 := 1) (by kernel_rfl) opens_rate (s3 := 2) (by kernel_rfl) (opens_int Tryd.underlying3) (s4 := 1) (by kernel_rfl) rfl rfl rfl rfl rfl (by kernel_rfl)
def OQ := { o : Qd // o.ok }
def OQ.cells (o : OQ) : List Value := o.1.cells
theorem opens_qd {H : Type} {enc : TypeId × Value → H} {W : World} : Opens enc Tryd.prog W 32 OQ.cells (fun _ => True) := by
  intro fuel cs d p ht hw
  obtain ⟨x, rfl, h⟩ := opens_qd5 fuel cs d p ht hw
  refine ⟨⟨⟨x.1, x.2.1, x.2.2.1, x.2.2.2.1.1, x.2.2.2.1.2, x.2.2.2.2⟩, ⟨h.1.1, h.1.2, h.2.2.1, h.2.2.2.1.1, h.2.2.2.1.2, h.2.2.2.2⟩⟩, ?_, trivial⟩
  simp [OQ.cells, Qd.cells, Qd.tail]
theorem opens_qds {H : Type} {enc : TypeId × Value → H} {W : World} : Opens enc Tryd.prog W 33 SLo.cells (SLo.good W 37 72 OQ.cells (fun _ => True)) :=
  opens_slice Tryd.underlying33 opens_qd (by kernel_rfl) (by kernel_rfl) (fun x => Qd.len x.2) (by decide)
theorem opens_ofr6 {H : Type} {enc : TypeId × Value → H} {W : World} : Opens enc Tryd.prog W 40 (fun x : Int × Int × List Nat × Nat × List Nat × Int => [Value.int .i64 x.1] ++ [Value.int .i64 x.2.1] ++ nums .u8 x.2.2.1 ++ [Value.int .u64 (x.2.2.2.1 : Int)] ++ nums .u8 x.2.2.2.2.1 ++ [Value.int .i64 x.2.2.2.2.2])
    (fun x => (Lit.int .i64 x.1).wf = true ∧ (Lit.int .i64 x.2.1).wf = true ∧ (x.2.2.1.length = 32 ∧ ∀ d ∈ x.2.2.1, d < 256) ∧ x.2.2.2.1 < 18446744073709551616 ∧ (x.2.2.2.2.1.length = 32 ∧ ∀ d ∈ x.2.2.2.2.1, d < 256) ∧ (Lit.int .i64 x.2.2.2.2.2).wf = true) :=
  opens_struct6 Tryd.underlying40 (opens_int Tryd.underlying3) (s0 := 1) (by kernel_rfl) (opens_int Tryd.underlying3) (s1 := 1) (by kernel_rfl) opens_digest (s2 := 32) (by kernel_rfl) (opens_nat (fun _ => u64_nat) Tryd.underlying28) (s3 := 1) (by kernel_rfl) opens_digest (s4 := 32) (by kernel_rfl) (opens_int Tryd.underlying3) (s5 := 1) (by kernel_rfl) rfl rfl rfl rfl rfl rfl (by kernel_rfl)
theorem opens_ofr {H : Type} {enc : TypeId × Value → H} {W : World} : Opens enc Tryd.prog W 40 Ofr.cells Ofr.ok := by
  intro fuel cs d p ht hw
  obtain ⟨x, rfl, h⟩ := opens_ofr6 fuel cs d p ht hw
  refine ⟨⟨x.1, x.2.1, x.2.2.1, x.2.2.2.1, x.2.2.2.2.1, x.2.2.2.2.2⟩, ?_, ⟨h.2.2.1.1, h.2.2.1.2, h.2.2.2.1, h.2.2.2.2.1.1, h.2.2.2.2.1.2, h.1, h.2.1, h.2.2.2.2.2⟩⟩
  simp [Ofr.cells]
theorem opens_leg {H : Type} {enc : TypeId × Value → H} {W : World} : Opens enc Tryd.prog W 42 Lg.cells Lg.ok := by
  intro fuel cs d p ht hw
  obtain ⟨x, rfl, h⟩ := opens_struct2 Tryd.underlying42 (opens_int Tryd.underlying3) (s0 := 1) (by kernel_rfl) opens_ofr (s1 := 68) (by kernel_rfl) rfl rfl (by kernel_rfl) fuel cs d p ht hw
  exact ⟨⟨x.1, x.2⟩, by simp [Lg.cells], ⟨h.2, h.1⟩⟩
set_option maxRecDepth 100000 in
set_option maxHeartbeats 4000000 in
theorem opens_ed8 {H : Type} {enc : TypeId × Value → H} {W : World} : Opens enc Tryd.prog W 60 (fun x : Int × Lg × Lg × List Nat × Int × Int × Int × List Nat => [Value.int .i64 x.1] ++ x.2.1.cells ++ x.2.2.1.cells ++ nums .u8 x.2.2.2.1 ++ [Value.int .i64 x.2.2.2.2.1] ++ [Value.int .i64 x.2.2.2.2.2.1] ++ [Value.int .i64 x.2.2.2.2.2.2.1] ++ nums .u8 x.2.2.2.2.2.2.2)
    (fun x => (Lit.int .i64 x.1).wf = true ∧ x.2.1.ok ∧ x.2.2.1.ok ∧ (x.2.2.2.1.length = 32 ∧ ∀ d ∈ x.2.2.2.1, d < 256) ∧ (Lit.int .i64 x.2.2.2.2.1).wf = true ∧ (Lit.int .i64 x.2.2.2.2.2.1).wf = true ∧ (Lit.int .i64 x.2.2.2.2.2.2.1).wf = true ∧ (x.2.2.2.2.2.2.2.length = 32 ∧ ∀ d ∈ x.2.2.2.2.2.2.2, d < 256)) :=
  opens_struct8 Tryd.underlying60 (opens_int Tryd.underlying3) (s0 := 1) (by kernel_rfl) opens_leg (s1 := 69) (by kernel_rfl) opens_leg (s2 := 69) (by kernel_rfl) opens_digest (s3 := 32) (by kernel_rfl) (opens_int Tryd.underlying3) (s4 := 1) (by kernel_rfl) (opens_int Tryd.underlying3) (s5 := 1) (by kernel_rfl) (opens_int Tryd.underlying3) (s6 := 1) (by kernel_rfl) opens_digest (s7 := 32) (by kernel_rfl) rfl rfl rfl rfl rfl rfl rfl rfl (by kernel_rfl)
def OE := { o : Ed // o.ok }
def OE.cells (o : OE) : List Value := o.1.cells
theorem opens_ed {H : Type} {enc : TypeId × Value → H} {W : World} : Opens enc Tryd.prog W 60 OE.cells (fun _ => True) := by
  intro fuel cs d p ht hw
  obtain ⟨x, rfl, h⟩ := opens_ed8 fuel cs d p ht hw
  refine ⟨⟨⟨x.1, x.2.1, x.2.2.1, x.2.2.2.1, x.2.2.2.2.1, x.2.2.2.2.2.1, x.2.2.2.2.2.2.1, x.2.2.2.2.2.2.2⟩, ⟨h.1, h.2.1, h.2.2.1, h.2.2.2.1, h.2.2.2.2.1, h.2.2.2.2.2.1, h.2.2.2.2.2.2.1, h.2.2.2.2.2.2.2⟩⟩, ?_, trivial⟩
  simp [OE.cells, Ed.cells]
theorem opens_eds {H : Type} {enc : TypeId × Value → H} {W : World} : Opens enc Tryd.prog W 57 SLo.cells (SLo.good W 206 304 OE.cells (fun _ => True)) :=
  opens_slice Tryd.underlying57 opens_ed (by kernel_rfl) (by kernel_rfl) (fun x => Ed.len x.2) (by decide)
theorem oq_flat (xs : List OQ) : xs.flatMap OQ.cells = (xs.map (·.1)).flatMap Qd.cells := by
  induction xs with
  | nil => rfl
  | cons x r ih => rw [List.flatMap_cons, ih]; rfl
theorem oe_flat (xs : List OE) : xs.flatMap OE.cells = (xs.map (·.1)).flatMap Ed.cells := by
  induction xs with
  | nil => rfl
  | cons x r ih => rw [List.flatMap_cons, ih]; rfl
theorem qds_of {w : World} {a : Option Addr} {c : Nat} {xs : List OQ} (h : SLo.good w 37 72 OQ.cells (fun _ => True) ⟨a, c, xs⟩) : Qds w a xs.length c (xs.map (·.1)) := by
  have k := h.1
  rw [oq_flat] at k
  refine ⟨by simp, k, fun q hq => ?_⟩
  obtain ⟨x, _, rfl⟩ := List.mem_map.1 hq
  exact x.2
theorem eds_of {w : World} {a : Option Addr} {c : Nat} {xs : List OE} (h : SLo.good w 206 304 OE.cells (fun _ => True) ⟨a, c, xs⟩) : Eds w a xs.length c (xs.map (·.1)) := by
  have k := h.1
  rw [oe_flat] at k
  refine ⟨by simp, k, fun q hq => ?_⟩
  obtain ⟨x, _, rfl⟩ := List.mem_map.1 hq
  exact x.2
theorem lawKeeps' (dl : Int) (qa : Option Addr) (qn qc : Nat) (xs : List OQ) (sa : Option Addr) (sn sc : Nat) (es : List OE) (hd : (Lit.int .i64 dl).wf = true) (w : World) (n1 : xs.length = qn) (g1 : SLo.good w 37 72 OQ.cells (fun _ => True) ⟨qa, qc, xs⟩)
    (n2 : es.length = sn) (g2 : SLo.good w 206 304 OE.cells (fun _ => True) ⟨sa, sc, es⟩) (ht : Tabs w) :
    Calls Tryd.prog 6 #[.int .i64 dl, .slice qa qn qc, .slice sa sn sc] w fun e w' => e = .returned (.bool true) ∧ Below w.heap.size w w' := by
  subst n1 n2
  exact lawKeeps dl qa xs.length qc (xs.map (·.1)) sa es.length sc (es.map (·.1)) hd w (qds_of g1) (eds_of g2) ht
end Go.Proofs.YthccjefhlmngbaaDoor

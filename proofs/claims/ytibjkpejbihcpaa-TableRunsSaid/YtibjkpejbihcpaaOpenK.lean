/- What a list of steps reads as; TableSums for the frame. -/
import Derived.Test.YtibjkpejbihcpaaOpenG
import Derived.Test.YtibjkpejbihcpaaOpenS
import Derived.Test.YtibjkpejbihcpaaTabS
namespace Go.Proofs.Ytibjkpejbihcpaa
open Go.ChangeShapes Go.WideShapes Go.ChangeAt Go.RowKit

section
variable {H : Type} {enc : TypeId × Value → H} {P : Program} {W : World}
theorem opens_struct8 {t : TypeId} {f0 f1 f2 f3 f4 f5 f6 f7 : Field} {α0 α1 α2 α3 α4 α5 α6 α7 : Type} {c0 : α0 → List Value} {g0 : α0 → Prop} {s0 : Nat} {c1 : α1 → List Value} {g1 : α1 → Prop} {s1 : Nat} {c2 : α2 → List Value} {g2 : α2 → Prop} {s2 : Nat} {c3 : α3 → List Value} {g3 : α3 → Prop} {s3 : Nat} {c4 : α4 → List Value} {g4 : α4 → Prop} {s4 : Nat} {c5 : α5 → List Value} {g5 : α5 → Prop} {s5 : Nat} {c6 : α6 → List Value} {g6 : α6 → Prop} {s6 : Nat} {c7 : α7 → List Value} {g7 : α7 → Prop} {s7 : Nat} (ht : P.underlying t = some (.struct #[f0, f1, f2, f3, f4, f5, f6, f7])) (h0 : Opens enc P W f0.type c0 g0) (z0 : P.cellsOf f0.type = s0) (h1 : Opens enc P W f1.type c1 g1) (z1 : P.cellsOf f1.type = s1) (h2 : Opens enc P W f2.type c2 g2) (z2 : P.cellsOf f2.type = s2) (h3 : Opens enc P W f3.type c3 g3) (z3 : P.cellsOf f3.type = s3) (h4 : Opens enc P W f4.type c4 g4) (z4 : P.cellsOf f4.type = s4) (h5 : Opens enc P W f5.type c5 g5) (z5 : P.cellsOf f5.type = s5) (h6 : Opens enc P W f6.type c6 g6) (z6 : P.cellsOf f6.type = s6) (h7 : Opens enc P W f7.type c7 g7) (z7 : P.cellsOf f7.type = s7) (o0 : f0.offset = 0) (o1 : f1.offset = s0) (o2 : f2.offset = s0 + s1) (o3 : f3.offset = s0 + s1 + s2) (o4 : f4.offset = s0 + s1 + s2 + s3) (o5 : f5.offset = s0 + s1 + s2 + s3 + s4) (o6 : f6.offset = s0 + s1 + s2 + s3 + s4 + s5) (o7 : f7.offset = s0 + s1 + s2 + s3 + s4 + s5 + s6) (hz : P.cellsOf t = s0 + s1 + s2 + s3 + s4 + s5 + s6 + s7) :
    Opens enc P W t (fun x : α0 × α1 × α2 × α3 × α4 × α5 × α6 × α7 => c0 x.1 ++ c1 x.2.1 ++ c2 x.2.2.1 ++ c3 x.2.2.2.1 ++ c4 x.2.2.2.2.1 ++ c5 x.2.2.2.2.2.1 ++ c6 x.2.2.2.2.2.2.1 ++ c7 x.2.2.2.2.2.2.2) (fun x => g0 x.1 ∧ g1 x.2.1 ∧ g2 x.2.2.1 ∧ g3 x.2.2.2.1 ∧ g4 x.2.2.2.2.1 ∧ g5 x.2.2.2.2.2.1 ∧ g6 x.2.2.2.2.2.2.1 ∧ g7 x.2.2.2.2.2.2.2) := by
  intro fuel cs d p hf hw
  obtain ⟨ys, m, _, hx, hl, hlen, hg⟩ := DataW.trod_struct ht hf
  rw [hz] at hl
  match ys, hlen with
  | [y0, y1, y2, y3, y4, y5, y6, y7], _ =>
    simp only [Prod.mk.injEq] at hx
    have hw' : ∀ k ∈ DataW.weightsEach P [f0.type, f1.type, f2.type, f3.type, f4.type, f5.type, f6.type, f7.type] [y0.1, y1.1, y2.1, y3.1, y4.1, y5.1, y6.1, y7.1], k ≤ reachBytes := fun k hk => hw k (by rw [hx.1]; simpa [DataW.weights, ht] using hk)
    simp only [DataW.weightsEach, List.mem_append, List.append_nil] at hw'
    have e0 := hg 0 f0 rfl
    rw [o0, z0] at e0
    obtain ⟨x0, k0, q0⟩ := h0 m _ y0.1 y0.2 (by simpa using e0) (fun k hk => hw' k (.inl hk))
    have e1 := hg 1 f1 rfl
    rw [o1, z1] at e1
    obtain ⟨x1, k1, q1⟩ := h1 m _ y1.1 y1.2 (by simpa using e1) (fun k hk => hw' k (.inr (.inl hk)))
    have e2 := hg 2 f2 rfl
    rw [o2, z2] at e2
    obtain ⟨x2, k2, q2⟩ := h2 m _ y2.1 y2.2 (by simpa using e2) (fun k hk => hw' k (.inr (.inr (.inl hk))))
    have e3 := hg 3 f3 rfl
    rw [o3, z3] at e3
    obtain ⟨x3, k3, q3⟩ := h3 m _ y3.1 y3.2 (by simpa using e3) (fun k hk => hw' k (.inr (.inr (.inr (.inl hk)))))
    have e4 := hg 4 f4 rfl
    rw [o4, z4] at e4
    obtain ⟨x4, k4, q4⟩ := h4 m _ y4.1 y4.2 (by simpa using e4) (fun k hk => hw' k (.inr (.inr (.inr (.inr (.inl hk))))))
    have e5 := hg 5 f5 rfl
    rw [o5, z5] at e5
    obtain ⟨x5, k5, q5⟩ := h5 m _ y5.1 y5.2 (by simpa using e5) (fun k hk => hw' k (.inr (.inr (.inr (.inr (.inr (.inl hk)))))))
    have e6 := hg 6 f6 rfl
    rw [o6, z6] at e6
    obtain ⟨x6, k6, q6⟩ := h6 m _ y6.1 y6.2 (by simpa using e6) (fun k hk => hw' k (.inr (.inr (.inr (.inr (.inr (.inr (.inl hk))))))))
    have e7 := hg 7 f7 rfl
    rw [o7, z7] at e7
    obtain ⟨x7, k7, q7⟩ := h7 m _ y7.1 y7.2 (by simpa using e7) (fun k hk => hw' k (.inr (.inr (.inr (.inr (.inr (.inr (.inr hk))))))))
    refine ⟨(x0, x1, x2, x3, x4, x5, x6, x7), ?_, q0, q1, q2, q3, q4, q5, q6, q7⟩
    show cs = c0 x0 ++ c1 x1 ++ c2 x2 ++ c3 x3 ++ c4 x4 ++ c5 x5 ++ c6 x6 ++ c7 x7
    rw [← k0, ← k1, ← k2, ← k3, ← k4, ← k5, ← k6, ← k7]
    rw [← List.take_add, ← List.take_add, ← List.take_add, ← List.take_add, ← List.take_add, ← List.take_add, ← List.take_add]
    exact (List.take_of_length_le (by omega)).symm
end
theorem flat_nums' (xs : List Nat) : (xs.flatMap fun z : Nat => [Value.int .u8 (z : Int)]) = nums .u8 xs := by
  induction xs with
  | nil => rfl
  | cons x r ih => rw [List.flatMap_cons, ih]; rfl
theorem opens_hash' {H : Type} {enc : TypeId × Value → H} {W : World} : Opens enc Try.prog W 30 (fun xs : List Nat => nums .u8 xs) (fun xs => xs.length = 32 ∧ ∀ x ∈ xs, x < 256) :=
  (opens_array Try.underlying30 (opens_nat (fun _ => u8_nat) Try.underlying5) (size := 1) (by kernel_rfl) (fun _ => rfl) (by kernel_rfl)).map id (fun xs => (flat_nums' xs).symm) (fun _ h => h)
theorem opens_u64' {H : Type} {enc : TypeId × Value → H} {W : World} : Opens enc Try.prog W 22 (fun z : Nat => [Value.int .u64 (z : Int)]) (fun z => z < 18446744073709551616) := opens_nat (fun _ => u64_nat) Try.underlying22
theorem opens_rate' {H : Type} {enc : TypeId × Value → H} {W : World} : Opens enc Try.prog W 24 (fun x : Nat × Nat => [Value.int .u64 (x.1 : Int)] ++ [Value.int .u64 (x.2 : Int)]) (fun x => x.1 < 18446744073709551616 ∧ x.2 < 18446744073709551616) :=
  opens_struct2 Try.underlying24 opens_u64' (s0 := 1) (by kernel_rfl) opens_u64' (s1 := 1) (by kernel_rfl) rfl rfl (by kernel_rfl)
theorem opens_step8 {H : Type} {enc : TypeId × Value → H} {W : World} : Opens enc Try.prog W 38 (fun x : Int × List Nat × List Nat × Bool × Nat × Nat × (Nat × Nat) × Int => [Value.int .i64 x.1] ++ nums .u8 x.2.1 ++ nums .u8 x.2.2.1 ++ [Value.bool x.2.2.2.1] ++ [Value.int .u64 (x.2.2.2.2.1 : Int)] ++ [Value.int .u64 (x.2.2.2.2.2.1 : Int)] ++ ([Value.int .u64 (x.2.2.2.2.2.2.1.1 : Int)] ++ [Value.int .u64 (x.2.2.2.2.2.2.1.2 : Int)]) ++ [Value.int .i64 x.2.2.2.2.2.2.2])
    (fun x => (Lit.int .i64 x.1).wf = true ∧ (x.2.1.length = 32 ∧ ∀ d ∈ x.2.1, d < 256) ∧ (x.2.2.1.length = 32 ∧ ∀ d ∈ x.2.2.1, d < 256) ∧ True ∧ x.2.2.2.2.1 < 18446744073709551616 ∧ x.2.2.2.2.2.1 < 18446744073709551616 ∧ (x.2.2.2.2.2.2.1.1 < 18446744073709551616 ∧ x.2.2.2.2.2.2.1.2 < 18446744073709551616) ∧ (Lit.int .i64 x.2.2.2.2.2.2.2).wf = true) :=
  opens_struct8 Try.underlying38 (opens_int Try.underlying3) (s0 := 1) (by kernel_rfl) opens_hash' (s1 := 32) (by kernel_rfl) opens_hash' (s2 := 32) (by kernel_rfl) (opens_bool Try.underlying4) (s3 := 1) (by kernel_rfl) opens_u64' (s4 := 1) (by kernel_rfl) opens_u64' (s5 := 1) (by kernel_rfl) opens_rate' (s6 := 2) (by kernel_rfl) (opens_int Try.underlying3) (s7 := 1) (by kernel_rfl) rfl rfl rfl rfl rfl rfl rfl rfl (by kernel_rfl)
def OStp := { s : Stp // s.ok }
def OStp.cells (s : OStp) : List Value := s.1.cells
theorem opens_step {H : Type} {enc : TypeId × Value → H} {W : World} : Opens enc Try.prog W 38 OStp.cells (fun _ => True) := by
  intro fuel cs d p ht hw
  obtain ⟨x, rfl, h⟩ := opens_step8 fuel cs d p ht hw
  exact ⟨⟨⟨x.1, x.2.1, x.2.2.1, x.2.2.2.1, x.2.2.2.2.1, x.2.2.2.2.2.1, x.2.2.2.2.2.2.1.1, x.2.2.2.2.2.2.1.2, x.2.2.2.2.2.2.2⟩, ⟨h.2.1.1, h.2.1.2, h.2.2.1.1, h.2.2.1.2, h.2.2.2.2.1, h.2.2.2.2.2.1, h.2.2.2.2.2.2.1.1, h.2.2.2.2.2.2.1.2, h.1, h.2.2.2.2.2.2.2⟩⟩, by simp [OStp.cells, Stp.cells, Stp.tail], trivial⟩
theorem opens_steps {H : Type} {enc : TypeId × Value → H} {W : World} : Opens enc Try.prog W 25 SLo.cells (SLo.good W 71 120 OStp.cells (fun _ => True)) :=
  opens_slice Try.underlying25 opens_step (by kernel_rfl) (by kernel_rfl) (fun x => Stp.len x.2) (by decide)
theorem oflat (xs : List OStp) : xs.flatMap OStp.cells = (xs.map (fun s => s.1)).flatMap Stp.cells := by
  induction xs with
  | nil => rfl
  | cons x r ih => rw [List.flatMap_cons, ih]; rfl
theorem lawSums' (rc ru most : Nat) (a : Option Addr) (n cap : Nat) (ls : List OStp) (hrc : rc < 18446744073709551616) (hru : ru < 18446744073709551616) (hm : most < 18446744073709551616) (w : World) (hl : ls.length = n) (hS : SLo.good w 71 120 OStp.cells (fun _ => True) ⟨a, cap, ls⟩) :
    Calls Try.prog 3 #[rateV rc ru, .int .u64 most, .slice a n cap] w (fun e w' => e = .returned (.bool true) ∧ Below w.heap.size w w') := by
  subst hl
  obtain ⟨h1, _, h3⟩ := hS
  rw [oflat] at h1
  refine lawSums rc ru most a ls.length cap (ls.map (fun s => s.1)) hrc hru hm (by simp only at h3; omega) w ⟨by simp, h1, fun s hs => ?_⟩
  obtain ⟨x, _, rfl⟩ := List.mem_map.1 hs
  exact x.2
end Go.Proofs.Ytibjkpejbihcpaa

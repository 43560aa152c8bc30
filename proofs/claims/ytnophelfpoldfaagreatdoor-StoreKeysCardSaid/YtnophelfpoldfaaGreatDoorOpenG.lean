/- What an argument reads as, whatever its type's shape: numbers, bools, slices, arrays, structs. -/
import Derived.Test.YtnophelfpoldfaaGreatDoorOpen
namespace Go.Proofs.YtnophelfpoldfaaGreatDoor
open Go.ChangeShapes Go.WideShapes Go.ChangeAt Go.RowKit

section
variable {H : Type} {enc : TypeId × Value → H} {P : Program} {W : World}
/-- whatever lies in W as a variable of type t, within the reach, has the cells of a good x -/
def Opens (enc : TypeId × Value → H) (P : Program) (W : World) (t : TypeId) {α : Type} (cells : α → List Value) (good : α → Prop) : Prop :=
  ∀ fuel cs d p, DataW.trod enc P W 0 (fun _ => true) true fuel t cs = some (d, p) → (∀ n ∈ DataW.weights P t d, n ≤ reachBytes) → ∃ x, cs = cells x ∧ good x
theorem Opens.map {t : TypeId} {α β : Type} {cells : α → List Value} {good : α → Prop} (h : Opens enc P W t cells good) (f : α → β) {cells' : β → List Value} {good' : β → Prop}
    (hc : ∀ x, cells' (f x) = cells x) (hg : ∀ x, good x → good' (f x)) : Opens enc P W t cells' good' := by
  intro fuel cs d p ht hw
  obtain ⟨x, rfl, hx⟩ := h fuel cs d p ht hw
  exact ⟨f x, (hc x).symm, hg x hx⟩
theorem opens_int {t : TypeId} {k : IntKind} (h : P.underlying t = some (.int k)) : Opens enc P W t (fun z : Int => [Value.int k z]) (fun z => (Lit.int k z).wf = true) := by
  intro fuel cs d p ht _
  obtain ⟨n, rfl, _, hn⟩ := DataW.trod_int h ht
  exact ⟨n, rfl, hn⟩
theorem opens_nat {t : TypeId} {k : IntKind} {M : Nat} (hk : ∀ a : Int, (Lit.int k a).wf = true → ∃ n : Nat, a = (n : Int) ∧ n < M) (h : P.underlying t = some (.int k)) : Opens enc P W t (fun z : Nat => [Value.int k (z : Int)]) (fun z => z < M) := by
  intro fuel cs d p ht _
  obtain ⟨n, rfl, _, hn⟩ := DataW.trod_int h ht
  obtain ⟨m, rfl, hm⟩ := hk n hn
  exact ⟨m, rfl, hm⟩
theorem opens_bool {t : TypeId} (h : P.underlying t = some .bool) : Opens enc P W t (fun b : Bool => [Value.bool b]) (fun _ => True) := by
  intro fuel cs d p ht _
  obtain ⟨b, rfl, _⟩ := DataW.trod_bool h ht
  exact ⟨b, rfl, trivial⟩
theorem many {α : Type} {n : Nat} {Q : Nat → α → Prop} (h : ∀ i, i < n → ∃ x, Q i x) : ∃ xs : List α, xs.length = n ∧ ∀ i x, xs[i]? = some x → Q i x := by
  induction n with
  | zero => exact ⟨[], rfl, by simp⟩
  | succ n ih =>
    obtain ⟨xs, hl, hq⟩ := ih (fun i hi => h i (by omega))
    obtain ⟨x, hx⟩ := h n (by omega)
    refine ⟨xs ++ [x], by simp [hl], fun i y hy => ?_⟩
    rw [List.getElem?_append] at hy
    split at hy
    · exact hq i y hy
    · rename_i hi
      have : i - xs.length = 0 := by
        have := (List.getElem?_eq_some_iff.1 hy).1
        simp at this; omega
      rw [this] at hy
      simp at hy
      subst hy
      obtain rfl : i = n := by omega
      exact hx
theorem flat_len {α : Type} {cells : α → List Value} {size : Nat} (hs : ∀ x, (cells x).length = size) (xs : List α) : (xs.flatMap cells).length = xs.length * size := by
  induction xs with
  | nil => simp
  | cons x r ih => rw [List.flatMap_cons, List.length_append, ih, hs, List.length_cons, Nat.add_mul]; omega
theorem flat_at {α : Type} {cells : α → List Value} {size : Nat} (hs : ∀ x, (cells x).length = size) {xs : List α} {i : Nat} {x : α} (h : xs[i]? = some x) {k : Nat} (hk : k < size) : (xs.flatMap cells)[i * size + k]? = (cells x)[k]? := by
  induction xs generalizing i with
  | nil => simp at h
  | cons y r ih =>
    cases i with
    | zero =>
      simp only [List.getElem?_cons_zero, Option.some.injEq] at h
      subst h
      rw [Nat.zero_mul, Nat.zero_add, List.flatMap_cons, List.getElem?_append_left (by rw [hs]; exact hk)]
    | succ i =>
      rw [List.getElem?_cons_succ] at h
      rw [List.flatMap_cons, List.getElem?_append_right (by rw [hs, Nat.add_mul]; omega), hs, ← ih h]
      congr 1
      rw [Nat.add_mul]; omega
theorem weights_slice {t e : TypeId} (h : P.underlying t = some (.slice e)) {elems spare : List (DataW H)} {d : DataW H} (hd : d ∈ elems) {n : Nat} (hn : n ∈ DataW.weights P e d) : n ∈ DataW.weights P t (.slice elems spare) := by
  simp only [DataW.weights, h, List.mem_cons, List.mem_append]
  refine .inr (.inl ?_)
  induction elems with
  | nil => cases hd
  | cons y r ih =>
    simp only [DataW.weightsAll, List.mem_append]
    rcases List.mem_cons.1 hd with rfl | hd
    · exact .inl hn
    · exact .inr (ih hd)
theorem weights_array {t e : TypeId} {m : Nat} (h : P.underlying t = some (.array m e)) {elems : List (DataW H)} {d : DataW H} (hd : d ∈ elems) {n : Nat} (hn : n ∈ DataW.weights P e d) : n ∈ DataW.weights P t (.agg elems) := by
  simp only [DataW.weights, h]
  induction elems with
  | nil => cases hd
  | cons y r ih =>
    simp only [DataW.weightsAll, List.mem_append]
    rcases List.mem_cons.1 hd with rfl | hd
    · exact .inl hn
    · exact .inr (ih hd)
/-- a slice as it lies -/
structure SLo (α : Type) where
  a : Option Addr
  c : Nat
  xs : List α
def SLo.cells {α : Type} (s : SLo α) : List Value := [.slice s.a s.xs.length s.c]
def SLo.good {α : Type} (W : World) (size bytes : Nat) (cells : α → List Value) (good : α → Prop) (s : SLo α) : Prop :=
  Rd W size s.a s.xs.length s.c (s.xs.flatMap cells) ∧ (∀ x ∈ s.xs, good x) ∧ s.xs.length * bytes ≤ 140737488351232
theorem opens_slice {t e : TypeId} {α : Type} {cells : α → List Value} {good : α → Prop} {size bytes : Nat} (ht : P.underlying t = some (.slice e)) (h : Opens enc P W e cells good) (hz : P.cellsOf e = size) (hby : P.bytesOf e = bytes) (hs : ∀ x, (cells x).length = size) (hp : 0 < size) :
    Opens enc P W t SLo.cells (SLo.good W size bytes cells good) := by
  intro fuel cs d p hf hw
  rcases DataW.trod_slice ht hf with ⟨rfl, hx⟩ | ⟨a, len, cap, elems, rest, m, _, rfl, hx, _, hl, hm, hlen, hel, hsp, _⟩
  · exact ⟨⟨none, 0, []⟩, rfl, ⟨by simp, by simp, by simp, fun _ => rfl, 0, 0, by simp, by simp⟩, by simp, by simp⟩
  · simp only [Prod.mk.injEq] at hx
    have key : ∀ i, i < len → ∃ x, good x ∧ ∀ k, k < size → W.cell? (a.add (i * size + k)) = (cells x)[k]? := by
      intro i hi
      have he := hel i hi
      have hil : i < elems.length := by omega
      rw [List.getElem?_eq_getElem hil] at he
      obtain ⟨cs', hc, ht'⟩ := Option.bind_eq_some_iff.1 he
      obtain ⟨_, hcl, hat⟩ := World.cells?_some hc
      have hwe : ∀ n ∈ DataW.weights P e (elems[i]).1, n ≤ reachBytes := fun n hn => hw n (by rw [hx.1]; exact weights_slice ht (List.mem_map.2 ⟨elems[i], List.getElem_mem hil, rfl⟩) hn)
      obtain ⟨x, rfl, hg⟩ := h m cs' (elems[i]).1 (elems[i]).2 ht' hwe
      refine ⟨x, hg, fun k hk => ?_⟩
      have := hat k (by omega)
      rw [hz, Addr.add_add] at this
      exact this
    obtain ⟨xs, hxl, hq⟩ := many key
    have hb : (elems.length + rest.length) * P.bytesOf e ≤ reachBytes := hw _ (by rw [hx.1]; simp [DataW.weights, ht])
    refine ⟨⟨some a, cap, xs⟩, by simp [SLo.cells, hxl], ⟨flat_len hs xs, by simpa [hxl] using hl, hm, (fun e => by cases e), ?_⟩, fun x hx => ?_, ?_⟩
    · by_cases h0 : 0 < len
      · obtain ⟨x0, hx0⟩ : ∃ x, xs[0]? = some x := ⟨xs[0]'(by omega), List.getElem?_eq_getElem (by omega)⟩
        have hc0 := (hq 0 x0 hx0).2 0 hp
        obtain ⟨b, off, spot⟩ := a
        have hspot : spot = none := by
          have hlt : 0 < (cells x0).length := by rw [hs]; exact hp
          rw [List.getElem?_eq_getElem hlt] at hc0
          simpa [Addr.add] using World.cell?_spot hc0
        subst hspot
        refine ⟨b, off, fun _ => rfl, fun j u hu => ?_⟩
        have hj : j < xs.length * size := by rw [← flat_len hs xs]; exact (List.getElem?_eq_some_iff.1 hu).1
        have hjd : j / size < xs.length := by rw [Nat.div_lt_iff_lt_mul hp]; exact hj
        obtain ⟨x, hxx⟩ : ∃ x, xs[j / size]? = some x := ⟨xs[j / size], List.getElem?_eq_getElem hjd⟩
        have hjm : j % size < size := Nat.mod_lt _ hp
        have h1 := (hq _ x hxx).2 (j % size) hjm
        have h2 := flat_at hs hxx hjm
        have h3 : j / size * size + j % size = j := by rw [Nat.mul_comm]; exact Nat.div_add_mod j size
        rw [h3] at h1 h2
        have hadd : (⟨b, off, none⟩ : Addr).add j = ⟨b, off + j, none⟩ := by unfold Addr.add; split <;> simp_all
        rw [hadd] at h1
        rw [h1, ← h2]; exact hu
      · have : xs = [] := List.eq_nil_of_length_eq_zero (by omega)
        subst this
        exact ⟨0, 0, by simp, by simp⟩
    · obtain ⟨i, hi⟩ := List.mem_iff_getElem?.1 hx
      exact (hq i x hi).1
    · rw [hby] at hb
      have : xs.length * bytes ≤ (elems.length + rest.length) * bytes := Nat.mul_le_mul_right _ (by omega)
      have hr : reachBytes = 140737488351232 := by decide
      show xs.length * bytes ≤ _
      omega
theorem opens_array {t e : TypeId} {α : Type} {cells : α → List Value} {good : α → Prop} {size n : Nat} (ht : P.underlying t = some (.array n e)) (h : Opens enc P W e cells good) (hz : P.cellsOf e = size) (hs : ∀ x, (cells x).length = size) (htz : P.cellsOf t = n * size) :
    Opens enc P W t (fun xs : List α => xs.flatMap cells) (fun xs => xs.length = n ∧ ∀ x ∈ xs, good x) := by
  intro fuel cs d p hf hw
  obtain ⟨ys, m, _, hx, hcl, hyl, hel⟩ := DataW.trod_array ht hf
  simp only [Prod.mk.injEq] at hx
  have key : ∀ i, i < n → ∃ x, good x ∧ (cs.drop (i * size)).take size = cells x := by
    intro i hi
    have he := hel i hi
    rw [List.getElem?_eq_getElem (by omega), hz] at he
    obtain ⟨x, h1, h2⟩ := h m _ (ys[i]).1 (ys[i]).2 he (fun n hn => hw n (by rw [hx.1]; exact weights_array ht (List.mem_map.2 ⟨ys[i], List.getElem_mem _, rfl⟩) hn))
    exact ⟨x, h2, h1⟩
  obtain ⟨xs, hxl, hq⟩ := many key
  refine ⟨xs, ?_, hxl, fun x hx => ?_⟩
  · apply List.ext_getElem?
    intro j
    show cs[j]? = (xs.flatMap cells)[j]?
    rcases Nat.eq_zero_or_pos size with h0 | h0
    · subst h0
      have h1 : cs.length = 0 := by omega
      have h2 := flat_len hs xs
      rw [List.getElem?_eq_none (by omega), List.getElem?_eq_none (by omega)]
    · by_cases hj : j < n * size
      · have hjd : j / size < xs.length := by rw [hxl, Nat.div_lt_iff_lt_mul h0]; exact hj
        obtain ⟨x, hxx⟩ : ∃ x, xs[j / size]? = some x := ⟨xs[j / size], List.getElem?_eq_getElem hjd⟩
        have hjm : j % size < size := Nat.mod_lt _ h0
        have h2 := flat_at hs hxx hjm
        have h3 : j / size * size + j % size = j := by rw [Nat.mul_comm]; exact Nat.div_add_mod j size
        rw [h3] at h2
        rw [h2, ← (hq _ x hxx).2, List.getElem?_take, if_pos hjm, List.getElem?_drop, h3]
      · have h2 := flat_len hs xs
        rw [List.getElem?_eq_none (by omega), List.getElem?_eq_none (by rw [h2, hxl]; omega)]
  · obtain ⟨i, hi⟩ := List.mem_iff_getElem?.1 hx
    exact (hq i x hi).1
theorem cut2 {cs : List Value} {a b : Nat} (h : cs.length = a + b) : cs = cs.take a ++ (cs.drop a).take b := by
  rw [List.take_of_length_le (l := cs.drop a) (by simp; omega), List.take_append_drop]
theorem opens_struct1 {t : TypeId} {f0 : Field} {α0 : Type} {c0 : α0 → List Value} {g0 : α0 → Prop} {s0 : Nat} (ht : P.underlying t = some (.struct #[f0])) (h0 : Opens enc P W f0.type c0 g0) (z0 : P.cellsOf f0.type = s0) (o0 : f0.offset = 0) (hz : P.cellsOf t = s0) :
    Opens enc P W t (fun x : α0 => c0 x) (fun x => g0 x) := by
  intro fuel cs d p hf hw
  obtain ⟨ys, m, _, hx, hl, hlen, hg⟩ := DataW.trod_struct ht hf
  rw [hz] at hl
  match ys, hlen with
  | [y0], _ =>
    simp only [Prod.mk.injEq] at hx
    have hw' : ∀ k ∈ DataW.weightsEach P [f0.type] [y0.1], k ≤ reachBytes := fun k hk => hw k (by rw [hx.1]; simpa [DataW.weights, ht] using hk)
    simp only [DataW.weightsEach, List.append_nil] at hw'
    have e0 := hg 0 f0 rfl
    rw [o0, z0] at e0
    obtain ⟨x0, k0, q0⟩ := h0 m _ y0.1 y0.2 (by simpa using e0) (fun k hk => hw' k hk)
    refine ⟨x0, ?_, q0⟩
    show cs = c0 x0
    rw [← k0]
    exact (List.take_of_length_le (by omega)).symm
theorem opens_struct2 {t : TypeId} {f0 f1 : Field} {α0 α1 : Type} {c0 : α0 → List Value} {g0 : α0 → Prop} {s0 : Nat} {c1 : α1 → List Value} {g1 : α1 → Prop} {s1 : Nat} (ht : P.underlying t = some (.struct #[f0, f1])) (h0 : Opens enc P W f0.type c0 g0) (z0 : P.cellsOf f0.type = s0) (h1 : Opens enc P W f1.type c1 g1) (z1 : P.cellsOf f1.type = s1) (o0 : f0.offset = 0) (o1 : f1.offset = s0) (hz : P.cellsOf t = s0 + s1) :
    Opens enc P W t (fun x : α0 × α1 => c0 x.1 ++ c1 x.2) (fun x => g0 x.1 ∧ g1 x.2) := by
  intro fuel cs d p hf hw
  obtain ⟨ys, m, _, hx, hl, hlen, hg⟩ := DataW.trod_struct ht hf
  rw [hz] at hl
  match ys, hlen with
  | [y0, y1], _ =>
    simp only [Prod.mk.injEq] at hx
    have hw' : ∀ k ∈ DataW.weightsEach P [f0.type, f1.type] [y0.1, y1.1], k ≤ reachBytes := fun k hk => hw k (by rw [hx.1]; simpa [DataW.weights, ht] using hk)
    simp only [DataW.weightsEach, List.mem_append, List.append_nil] at hw'
    have e0 := hg 0 f0 rfl
    rw [o0, z0] at e0
    obtain ⟨x0, k0, q0⟩ := h0 m _ y0.1 y0.2 (by simpa using e0) (fun k hk => hw' k (.inl hk))
    have e1 := hg 1 f1 rfl
    rw [o1, z1] at e1
    obtain ⟨x1, k1, q1⟩ := h1 m _ y1.1 y1.2 (by simpa using e1) (fun k hk => hw' k (.inr hk))
    refine ⟨(x0, x1), ?_, q0, q1⟩
    show cs = c0 x0 ++ c1 x1
    rw [← k0, ← k1]
    rw [← List.take_add]
    exact (List.take_of_length_le (by omega)).symm
theorem opens_struct3 {t : TypeId} {f0 f1 f2 : Field} {α0 α1 α2 : Type} {c0 : α0 → List Value} {g0 : α0 → Prop} {s0 : Nat} {c1 : α1 → List Value} {g1 : α1 → Prop} {s1 : Nat} {c2 : α2 → List Value} {g2 : α2 → Prop} {s2 : Nat} (ht : P.underlying t = some (.struct #[f0, f1, f2])) (h0 : Opens enc P W f0.type c0 g0) (z0 : P.cellsOf f0.type = s0) (h1 : Opens enc P W f1.type c1 g1) (z1 : P.cellsOf f1.type = s1) (h2 : Opens enc P W f2.type c2 g2) (z2 : P.cellsOf f2.type = s2) (o0 : f0.offset = 0) (o1 : f1.offset = s0) (o2 : f2.offset = s0 + s1) (hz : P.cellsOf t = s0 + s1 + s2) :
    Opens enc P W t (fun x : α0 × α1 × α2 => c0 x.1 ++ c1 x.2.1 ++ c2 x.2.2) (fun x => g0 x.1 ∧ g1 x.2.1 ∧ g2 x.2.2) := by
  intro fuel cs d p hf hw
  obtain ⟨ys, m, _, hx, hl, hlen, hg⟩ := DataW.trod_struct ht hf
  rw [hz] at hl
  match ys, hlen with
  | [y0, y1, y2], _ =>
    simp only [Prod.mk.injEq] at hx
    have hw' : ∀ k ∈ DataW.weightsEach P [f0.type, f1.type, f2.type] [y0.1, y1.1, y2.1], k ≤ reachBytes := fun k hk => hw k (by rw [hx.1]; simpa [DataW.weights, ht] using hk)
    simp only [DataW.weightsEach, List.mem_append, List.append_nil] at hw'
    have e0 := hg 0 f0 rfl
    rw [o0, z0] at e0
    obtain ⟨x0, k0, q0⟩ := h0 m _ y0.1 y0.2 (by simpa using e0) (fun k hk => hw' k (.inl hk))
    have e1 := hg 1 f1 rfl
    rw [o1, z1] at e1
    obtain ⟨x1, k1, q1⟩ := h1 m _ y1.1 y1.2 (by simpa using e1) (fun k hk => hw' k (.inr (.inl hk)))
    have e2 := hg 2 f2 rfl
    rw [o2, z2] at e2
    obtain ⟨x2, k2, q2⟩ := h2 m _ y2.1 y2.2 (by simpa using e2) (fun k hk => hw' k (.inr (.inr hk)))
    refine ⟨(x0, x1, x2), ?_, q0, q1, q2⟩
    show cs = c0 x0 ++ c1 x1 ++ c2 x2
    rw [← k0, ← k1, ← k2]
    rw [← List.take_add, ← List.take_add]
    exact (List.take_of_length_le (by omega)).symm
theorem opens_struct4 {t : TypeId} {f0 f1 f2 f3 : Field} {α0 α1 α2 α3 : Type} {c0 : α0 → List Value} {g0 : α0 → Prop} {s0 : Nat} {c1 : α1 → List Value} {g1 : α1 → Prop} {s1 : Nat} {c2 : α2 → List Value} {g2 : α2 → Prop} {s2 : Nat} {c3 : α3 → List Value} {g3 : α3 → Prop} {s3 : Nat} (ht : P.underlying t = some (.struct #[f0, f1, f2, f3])) (h0 : Opens enc P W f0.type c0 g0) (z0 : P.cellsOf f0.type = s0) (h1 : Opens enc P W f1.type c1 g1) (z1 : P.cellsOf f1.type = s1) (h2 : Opens enc P W f2.type c2 g2) (z2 : P.cellsOf f2.type = s2) (h3 : Opens enc P W f3.type c3 g3) (z3 : P.cellsOf f3.type = s3) (o0 : f0.offset = 0) (o1 : f1.offset = s0) (o2 : f2.offset = s0 + s1) (o3 : f3.offset = s0 + s1 + s2) (hz : P.cellsOf t = s0 + s1 + s2 + s3) :
    Opens enc P W t (fun x : α0 × α1 × α2 × α3 => c0 x.1 ++ c1 x.2.1 ++ c2 x.2.2.1 ++ c3 x.2.2.2) (fun x => g0 x.1 ∧ g1 x.2.1 ∧ g2 x.2.2.1 ∧ g3 x.2.2.2) := by
  intro fuel cs d p hf hw
  obtain ⟨ys, m, _, hx, hl, hlen, hg⟩ := DataW.trod_struct ht hf
  rw [hz] at hl
  match ys, hlen with
  | [y0, y1, y2, y3], _ =>
    simp only [Prod.mk.injEq] at hx
    have hw' : ∀ k ∈ DataW.weightsEach P [f0.type, f1.type, f2.type, f3.type] [y0.1, y1.1, y2.1, y3.1], k ≤ reachBytes := fun k hk => hw k (by rw [hx.1]; simpa [DataW.weights, ht] using hk)
    simp only [DataW.weightsEach, List.mem_append, List.append_nil] at hw'
    have e0 := hg 0 f0 rfl
    rw [o0, z0] at e0
    obtain ⟨x0, k0, q0⟩ := h0 m _ y0.1 y0.2 (by simpa using e0) (fun k hk => hw' k (.inl hk))
    have e1 := hg 1 f1 rfl
    rw [o1, z1] at e1
    obtain ⟨x1, k1, q1⟩ := h1 m _ y1.1 y1.2 (by simpa using e1) (fun k hk => hw' k (.inr (.inl hk)))
    have e2 := hg 2 f2 rfl
    rw [o2, z2] at e2
    obtain ⟨x2, k2, q2⟩ := h2 m _ y2.1 y2.2 (by simpa using e2) (fun k hk => hw' k (.inr (.inr (.inl hk))))
    have e3 := hg 3 f3 rfl
    rw [o3, z3] at e3
    obtain ⟨x3, k3, q3⟩ := h3 m _ y3.1 y3.2 (by simpa using e3) (fun k hk => hw' k (.inr (.inr (.inr hk))))
    refine ⟨(x0, x1, x2, x3), ?_, q0, q1, q2, q3⟩
    show cs = c0 x0 ++ c1 x1 ++ c2 x2 ++ c3 x3
    rw [← k0, ← k1, ← k2, ← k3]
    rw [← List.take_add, ← List.take_add, ← List.take_add]
    exact (List.take_of_length_le (by omega)).symm
theorem opens_struct5 {t : TypeId} {f0 f1 f2 f3 f4 : Field} {α0 α1 α2 α3 α4 : Type} {c0 : α0 → List Value} {g0 : α0 → Prop} {s0 : Nat} {c1 : α1 → List Value} {g1 : α1 → Prop} {s1 : Nat} {c2 : α2 → List Value} {g2 : α2 → Prop} {s2 : Nat} {c3 : α3 → List Value} {g3 : α3 → Prop} {s3 : Nat} {c4 : α4 → List Value} {g4 : α4 → Prop} {s4 : Nat} (ht : P.underlying t = some (.struct #[f0, f1, f2, f3, f4])) (h0 : Opens enc P W f0.type c0 g0) (z0 : P.cellsOf f0.type = s0) (h1 : Opens enc P W f1.type c1 g1) (z1 : P.cellsOf f1.type = s1) (h2 : Opens enc P W f2.type c2 g2) (z2 : P.cellsOf f2.type = s2) (h3 : Opens enc P W f3.type c3 g3) (z3 : P.cellsOf f3.type = s3) (h4 : Opens enc P W f4.type c4 g4) (z4 : P.cellsOf f4.type = s4) (o0 : f0.offset = 0) (o1 : f1.offset = s0) (o2 : f2.offset = s0 + s1) (o3 : f3.offset = s0 + s1 + s2) (o4 : f4.offset = s0 + s1 + s2 + s3) (hz : P.cellsOf t = s0 + s1 + s2 + s3 + s4) :
    Opens enc P W t (fun x : α0 × α1 × α2 × α3 × α4 => c0 x.1 ++ c1 x.2.1 ++ c2 x.2.2.1 ++ c3 x.2.2.2.1 ++ c4 x.2.2.2.2) (fun x => g0 x.1 ∧ g1 x.2.1 ∧ g2 x.2.2.1 ∧ g3 x.2.2.2.1 ∧ g4 x.2.2.2.2) := by
  intro fuel cs d p hf hw
  obtain ⟨ys, m, _, hx, hl, hlen, hg⟩ := DataW.trod_struct ht hf
  rw [hz] at hl
  match ys, hlen with
  | [y0, y1, y2, y3, y4], _ =>
    simp only [Prod.mk.injEq] at hx
    have hw' : ∀ k ∈ DataW.weightsEach P [f0.type, f1.type, f2.type, f3.type, f4.type] [y0.1, y1.1, y2.1, y3.1, y4.1], k ≤ reachBytes := fun k hk => hw k (by rw [hx.1]; simpa [DataW.weights, ht] using hk)
    simp only [DataW.weightsEach, List.mem_append, List.append_nil] at hw'
    have e0 := hg 0 f0 rfl
    rw [o0, z0] at e0
    obtain ⟨x0, k0, q0⟩ := h0 m _ y0.1 y0.2 (by simpa using e0) (fun k hk => hw' k (.inl hk))
    have e1 := hg 1 f1 rfl
    rw [o1, z1] at e1
    obtain ⟨x1, k1, q1⟩ := h1 m _ y1.1 y1.2 (by simpa using e1) (fun k hk => hw' k (.inr (.inl hk)))
    have e2 := hg 2 f2 rfl
    rw [o2, z2] at e2
    obtain ⟨x2, k2, q2⟩ := h2 m _ y2.1 y2.2 (by simpa using e2) (fun k hk => hw' k (.inr (.inr (.inl hk))))
    have e3 := hg 3 f3 rfl
    rw [o3, z3] at e3
    obtain ⟨x3, k3, q3⟩ := h3 m _ y3.1 y3.2 (by simpa using e3) (fun k hk => hw' k (.inr (.inr (.inr (.inl hk)))))
    have e4 := hg 4 f4 rfl
    rw [o4, z4] at e4
    obtain ⟨x4, k4, q4⟩ := h4 m _ y4.1 y4.2 (by simpa using e4) (fun k hk => hw' k (.inr (.inr (.inr (.inr hk)))))
    refine ⟨(x0, x1, x2, x3, x4), ?_, q0, q1, q2, q3, q4⟩
    show cs = c0 x0 ++ c1 x1 ++ c2 x2 ++ c3 x3 ++ c4 x4
    rw [← k0, ← k1, ← k2, ← k3, ← k4]
    rw [← List.take_add, ← List.take_add, ← List.take_add, ← List.take_add]
    exact (List.take_of_length_le (by omega)).symm
theorem opens_struct6 {t : TypeId} {f0 f1 f2 f3 f4 f5 : Field} {α0 α1 α2 α3 α4 α5 : Type} {c0 : α0 → List Value} {g0 : α0 → Prop} {s0 : Nat} {c1 : α1 → List Value} {g1 : α1 → Prop} {s1 : Nat} {c2 : α2 → List Value} {g2 : α2 → Prop} {s2 : Nat} {c3 : α3 → List Value} {g3 : α3 → Prop} {s3 : Nat} {c4 : α4 → List Value} {g4 : α4 → Prop} {s4 : Nat} {c5 : α5 → List Value} {g5 : α5 → Prop} {s5 : Nat} (ht : P.underlying t = some (.struct #[f0, f1, f2, f3, f4, f5])) (h0 : Opens enc P W f0.type c0 g0) (z0 : P.cellsOf f0.type = s0) (h1 : Opens enc P W f1.type c1 g1) (z1 : P.cellsOf f1.type = s1) (h2 : Opens enc P W f2.type c2 g2) (z2 : P.cellsOf f2.type = s2) (h3 : Opens enc P W f3.type c3 g3) (z3 : P.cellsOf f3.type = s3) (h4 : Opens enc P W f4.type c4 g4) (z4 : P.cellsOf f4.type = s4) (h5 : Opens enc P W f5.type c5 g5) (z5 : P.cellsOf f5.type = s5) (o0 : f0.offset = 0) (o1 : f1.offset = s0) (o2 : f2.offset = s0 + s1) (o3 : f3.offset = s0 + s1 + s2) (o4 : f4.offset = s0 + s1 + s2 + s3) (o5 : f5.offset = s0 + s1 + s2 + s3 + s4) (hz : P.cellsOf t = s0 + s1 + s2 + s3 + s4 + s5) :
    Opens enc P W t (fun x : α0 × α1 × α2 × α3 × α4 × α5 => c0 x.1 ++ c1 x.2.1 ++ c2 x.2.2.1 ++ c3 x.2.2.2.1 ++ c4 x.2.2.2.2.1 ++ c5 x.2.2.2.2.2) (fun x => g0 x.1 ∧ g1 x.2.1 ∧ g2 x.2.2.1 ∧ g3 x.2.2.2.1 ∧ g4 x.2.2.2.2.1 ∧ g5 x.2.2.2.2.2) := by
  intro fuel cs d p hf hw
  obtain ⟨ys, m, _, hx, hl, hlen, hg⟩ := DataW.trod_struct ht hf
  rw [hz] at hl
  match ys, hlen with
  | [y0, y1, y2, y3, y4, y5], _ =>
    simp only [Prod.mk.injEq] at hx
    have hw' : ∀ k ∈ DataW.weightsEach P [f0.type, f1.type, f2.type, f3.type, f4.type, f5.type] [y0.1, y1.1, y2.1, y3.1, y4.1, y5.1], k ≤ reachBytes := fun k hk => hw k (by rw [hx.1]; simpa [DataW.weights, ht] using hk)
    simp only [DataW.weightsEach, List.mem_append, List.append_nil] at hw'
    have e0 := hg 0 f0 rfl
    rw [o0, z0] at e0
    obtain ⟨x0, k0, q0⟩ := h0 m _ y0.1 y0.2 (by simpa using e0) (fun k hk => hw' k (.inl hk))
    have e1 := hg 1 f1 rfl
    rw [o1, z1] at e1
    obtain ⟨x1, k1, q1⟩ := h1 m _ y1.1 y1.2 (by simpa using e1) (fun k hk => hw' k (.inr (.inl hk)))
    have e2 := hg 2 f2 rfl
    rw [o2, z2] at e2
    obtain ⟨x2, k2, q2⟩ := h2 m _ y2.1 y2.2 (by simpa using e2) (fun k hk => hw' k (.inr (.inr (.inl hk))))
    have e3 := hg 3 f3 rfl
    rw [o3, z3] at e3
    obtain ⟨x3, k3, q3⟩ := h3 m _ y3.1 y3.2 (by simpa using e3) (fun k hk => hw' k (.inr (.inr (.inr (.inl hk)))))
    have e4 := hg 4 f4 rfl
    rw [o4, z4] at e4
    obtain ⟨x4, k4, q4⟩ := h4 m _ y4.1 y4.2 (by simpa using e4) (fun k hk => hw' k (.inr (.inr (.inr (.inr (.inl hk))))))
    have e5 := hg 5 f5 rfl
    rw [o5, z5] at e5
    obtain ⟨x5, k5, q5⟩ := h5 m _ y5.1 y5.2 (by simpa using e5) (fun k hk => hw' k (.inr (.inr (.inr (.inr (.inr hk))))))
    refine ⟨(x0, x1, x2, x3, x4, x5), ?_, q0, q1, q2, q3, q4, q5⟩
    show cs = c0 x0 ++ c1 x1 ++ c2 x2 ++ c3 x3 ++ c4 x4 ++ c5 x5
    rw [← k0, ← k1, ← k2, ← k3, ← k4, ← k5]
    rw [← List.take_add, ← List.take_add, ← List.take_add, ← List.take_add, ← List.take_add]
    exact (List.take_of_length_le (by omega)).symm
theorem opens_struct7 {t : TypeId} {f0 f1 f2 f3 f4 f5 f6 : Field} {α0 α1 α2 α3 α4 α5 α6 : Type} {c0 : α0 → List Value} {g0 : α0 → Prop} {s0 : Nat} {c1 : α1 → List Value} {g1 : α1 → Prop} {s1 : Nat} {c2 : α2 → List Value} {g2 : α2 → Prop} {s2 : Nat} {c3 : α3 → List Value} {g3 : α3 → Prop} {s3 : Nat} {c4 : α4 → List Value} {g4 : α4 → Prop} {s4 : Nat} {c5 : α5 → List Value} {g5 : α5 → Prop} {s5 : Nat} {c6 : α6 → List Value} {g6 : α6 → Prop} {s6 : Nat} (ht : P.underlying t = some (.struct #[f0, f1, f2, f3, f4, f5, f6])) (h0 : Opens enc P W f0.type c0 g0) (z0 : P.cellsOf f0.type = s0) (h1 : Opens enc P W f1.type c1 g1) (z1 : P.cellsOf f1.type = s1) (h2 : Opens enc P W f2.type c2 g2) (z2 : P.cellsOf f2.type = s2) (h3 : Opens enc P W f3.type c3 g3) (z3 : P.cellsOf f3.type = s3) (h4 : Opens enc P W f4.type c4 g4) (z4 : P.cellsOf f4.type = s4) (h5 : Opens enc P W f5.type c5 g5) (z5 : P.cellsOf f5.type = s5) (h6 : Opens enc P W f6.type c6 g6) (z6 : P.cellsOf f6.type = s6) (o0 : f0.offset = 0) (o1 : f1.offset = s0) (o2 : f2.offset = s0 + s1) (o3 : f3.offset = s0 + s1 + s2) (o4 : f4.offset = s0 + s1 + s2 + s3) (o5 : f5.offset = s0 + s1 + s2 + s3 + s4) (o6 : f6.offset = s0 + s1 + s2 + s3 + s4 + s5) (hz : P.cellsOf t = s0 + s1 + s2 + s3 + s4 + s5 + s6) :
    Opens enc P W t (fun x : α0 × α1 × α2 × α3 × α4 × α5 × α6 => c0 x.1 ++ c1 x.2.1 ++ c2 x.2.2.1 ++ c3 x.2.2.2.1 ++ c4 x.2.2.2.2.1 ++ c5 x.2.2.2.2.2.1 ++ c6 x.2.2.2.2.2.2) (fun x => g0 x.1 ∧ g1 x.2.1 ∧ g2 x.2.2.1 ∧ g3 x.2.2.2.1 ∧ g4 x.2.2.2.2.1 ∧ g5 x.2.2.2.2.2.1 ∧ g6 x.2.2.2.2.2.2) := by
  intro fuel cs d p hf hw
  obtain ⟨ys, m, _, hx, hl, hlen, hg⟩ := DataW.trod_struct ht hf
  rw [hz] at hl
  match ys, hlen with
  | [y0, y1, y2, y3, y4, y5, y6], _ =>
    simp only [Prod.mk.injEq] at hx
    have hw' : ∀ k ∈ DataW.weightsEach P [f0.type, f1.type, f2.type, f3.type, f4.type, f5.type, f6.type] [y0.1, y1.1, y2.1, y3.1, y4.1, y5.1, y6.1], k ≤ reachBytes := fun k hk => hw k (by rw [hx.1]; simpa [DataW.weights, ht] using hk)
    simp only [DataW.weightsEach, List.mem_append, List.append_nil] at hw'
    have e0 := hg 0 f0 rfl
    rw [o0, z0] at e0
    obtain ⟨x0, k0, q0⟩ := h0 m _ y0.1 y0.2 (by simpa using e0) (fun k hk => hw' k (.inl hk))
    have e1 := hg 1 f1 rfl
    rw [o1, z1] at e1
    obtain ⟨x1, k1, q1⟩ := h1 m _ y1.1 y1.2 (by simpa using e1) (fun k hk => hw' k (.inr (.inl hk)))
    have e2 := hg 2 f2 rfl
    rw [o2, z2] at e2
    obtain ⟨x2, k2, q2⟩ := h2 m _ y2.1 y2.2 (by simpa using e2) (fun k hk => hw' k (.inr (.inr (.inl hk))))
    have e3 := hg 3 f3 rfl
    rw [o3, z3] at e3
    obtain ⟨x3, k3, q3⟩ := h3 m _ y3.1 y3.2 (by simpa using e3) (fun k hk => hw' k (.inr (.inr (.inr (.inl hk)))))
    have e4 := hg 4 f4 rfl
    rw [o4, z4] at e4
    obtain ⟨x4, k4, q4⟩ := h4 m _ y4.1 y4.2 (by simpa using e4) (fun k hk => hw' k (.inr (.inr (.inr (.inr (.inl hk))))))
    have e5 := hg 5 f5 rfl
    rw [o5, z5] at e5
    obtain ⟨x5, k5, q5⟩ := h5 m _ y5.1 y5.2 (by simpa using e5) (fun k hk => hw' k (.inr (.inr (.inr (.inr (.inr (.inl hk)))))))
    have e6 := hg 6 f6 rfl
    rw [o6, z6] at e6
    obtain ⟨x6, k6, q6⟩ := h6 m _ y6.1 y6.2 (by simpa using e6) (fun k hk => hw' k (.inr (.inr (.inr (.inr (.inr (.inr hk)))))))
    refine ⟨(x0, x1, x2, x3, x4, x5, x6), ?_, q0, q1, q2, q3, q4, q5, q6⟩
    show cs = c0 x0 ++ c1 x1 ++ c2 x2 ++ c3 x3 ++ c4 x4 ++ c5 x5 ++ c6 x6
    rw [← k0, ← k1, ← k2, ← k3, ← k4, ← k5, ← k6]
    rw [← List.take_add, ← List.take_add, ← List.take_add, ← List.take_add, ← List.take_add, ← List.take_add]
    exact (List.take_of_length_le (by omega)).symm
/-- an argument whose value is its cells -/
theorem open_agg_arg {t : TypeId} {α : Type} {cells : α → List Value} {good : α → Prop} (h : Opens enc P W t cells good) {cs : Array Value} {d : DataW H} {p : List MemPlace} (hd : DataW.Trod enc P W 0 (fun _ => true) true t (.agg cs) d p) (hw : ∀ n ∈ DataW.weights P t d, n ≤ reachBytes) :
    ∃ x, (Value.agg cs) = .agg (cells x).toArray ∧ good x := by
  obtain ⟨fuel, hf⟩ := hd
  obtain ⟨x, hx, hg⟩ := h fuel _ d p hf hw
  refine ⟨x, ?_, hg⟩
  rw [← hx]
  simp [Value.cells]
theorem open_slice_arg {t : TypeId} {α : Type} {good : SLo α → Prop} (h : Opens enc P W t SLo.cells good) {a : Option Addr} {l c : Nat} {d : DataW H} {p : List MemPlace} (hd : DataW.Trod enc P W 0 (fun _ => true) true t (.slice a l c) d p) (hw : ∀ n ∈ DataW.weights P t d, n ≤ reachBytes) :
    ∃ xs : List α, xs.length = l ∧ good ⟨a, c, xs⟩ := by
  obtain ⟨fuel, hf⟩ := hd
  obtain ⟨⟨a', c', xs⟩, hx, hg⟩ := h fuel _ d p hf hw
  simp [SLo.cells, Value.cells] at hx
  obtain ⟨rfl, rfl, rfl⟩ := hx
  exact ⟨xs, rfl, hg⟩
theorem weights_arg {ts : List TypeId} {ds : List (DataW H)} (h : (DataW.weightsEach P ts ds).all (· ≤ reachBytes) = true) {j : Nat} {t : TypeId} {d : DataW H} (ht : ts[j]? = some t) (hd : ds[j]? = some d) : ∀ n ∈ DataW.weights P t d, n ≤ reachBytes := fun n hn => by
  simpa using List.all_eq_true.1 h n (DataW.weights_mem_each ht hd n hn)
/-- bytes -/
theorem flat_nums {k : IntKind} (xs : List Nat) : xs.flatMap (fun z : Nat => [Value.int k (z : Int)]) = nums k xs := by
  induction xs with
  | nil => rfl
  | cons x r ih => rw [List.flatMap_cons, ih]; rfl
theorem SLo.nums {k : IntKind} {W : World} {bytes M : Nat} {s : SLo Nat} (h : SLo.good W 1 bytes (fun z : Nat => [Value.int k (z : Int)]) (fun z => z < M) s) : Sl k W s.a s.xs.length s.c s.xs ∧ (∀ x ∈ s.xs, x < M) ∧ s.xs.length * bytes ≤ 140737488351232 := by
  obtain ⟨h1, h2, h3⟩ := h
  rw [flat_nums] at h1
  exact ⟨h1, h2, h3⟩
end
end Go.Proofs.YtnophelfpoldfaaGreatDoor

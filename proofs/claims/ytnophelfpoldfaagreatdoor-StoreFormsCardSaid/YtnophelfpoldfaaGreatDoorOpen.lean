/- What an argument reads as, for the walks: numbers and slices of numbers. -/
import Derived.Test.YtnophelfpoldfaaGreatDoorRows
import Derived.Test.YtnophelfpoldfaaGreatDoorGKey
import Derived.ProofKit
import Derived.OpenShut
import Derived.ShutString
import Derived.ChangeOld
import Derived.SizedLaws
namespace Go.Proofs.YtnophelfpoldfaaGreatDoor
open Go.ChangeShapes Go.WideShapes Go.ChangeAt Go.RowKit

theorem own : ownKnob Tryz.prog.godebug = none := by kernel_rfl
theorem laidOut : laidOutB Tryz.prog = true := by kernel_rfl

theorem u64_nat {a : Int} (h : (Lit.int .u64 a).wf = true) : ∃ n : Nat, a = (n : Int) ∧ n < 18446744073709551616 := by
  have := bounds_u64 h
  exact ⟨a.toNat, by omega, by omega⟩
theorem u8_nat {a : Int} (h : (Lit.int .u8 a).wf = true) : ∃ n : Nat, a = (n : Int) ∧ n < 256 := by
  have := bounds_u8 h
  exact ⟨a.toNat, by omega, by omega⟩
theorem nums_toNat {k : IntKind} {zs : List Int} (h : ∀ z ∈ zs, 0 ≤ z) : nums k (zs.map Int.toNat) = zs.map (Value.int k) := by
  induction zs with
  | nil => rfl
  | cons z r ih =>
    have hz := h z (by simp)
    have := ih (fun y hy => h y (by simp [hy]))
    simp only [nums, List.map_map, List.map_cons] at *
    rw [this]
    simp [Int.toNat_of_nonneg hz]
theorem sl_of_ints {k : IntKind} {M : Nat} (hk : ∀ a : Int, (Lit.int k a).wf = true → ∃ n : Nat, a = (n : Int) ∧ n < M) {W : World} {x : Addr} {l c : Nat} {zs : List Int} (hl : l ≤ c) (hm : c ≤ maxLen) (hz : zs.length = c)
    (hcell : ∀ i, i < zs.length → W.cell? (x.add i) = some (.int k (zs.getD i 0))) (hwz : ∀ n ∈ zs, (Lit.int k n).wf = true) :
    ∃ xs : List Nat, Sl k W (some x) l c xs ∧ ∀ d ∈ xs, d < M := by
  have h0 : ∀ z ∈ zs.take l, 0 ≤ z := by
    intro z h; obtain ⟨n, rfl, _⟩ := hk z (hwz z (List.mem_of_mem_take h)); omega
  refine ⟨(zs.take l).map Int.toNat, ⟨by simp; omega, hl, hm, (fun e => by cases e), ?_⟩, ?_⟩
  · rcases Nat.eq_zero_or_pos l with h | h
    · subst h; exact ⟨0, 0, by omega, by simp [nums]⟩
    · obtain ⟨b, off, spot⟩ := x
      have hc := hcell 0 (by omega)
      have hspot : spot = none := by simpa [Addr.add] using World.cell?_spot hc
      subst hspot
      refine ⟨b, off, fun _ => rfl, fun j u hu => ?_⟩
      rw [nums_toNat h0] at hu
      have hj : j < l := by
        have := (List.getElem?_eq_some_iff.1 hu).1
        simp at this; omega
      have := hcell j (by omega)
      have hadd : (⟨b, off, none⟩ : Addr).add j = ⟨b, off + j, none⟩ := by unfold Addr.add; split <;> simp_all
      rw [hadd] at this
      rw [this]
      simp [hj] at hu
      obtain ⟨z, hz1, hz2⟩ := hu
      simp [hz1, hz2]
  · intro d hd
    simp only [List.mem_map] at hd
    obtain ⟨z, hz1, rfl⟩ := hd
    obtain ⟨n, rfl, hn⟩ := hk z (hwz z (List.mem_of_mem_take hz1))
    simpa using hn
theorem open_sl {P : Program} {H : Type} {enc : TypeId × Value → H} {k : IntKind} {M : Nat} (hk : ∀ a : Int, (Lit.int k a).wf = true → ∃ n : Nat, a = (n : Int) ∧ n < M) {t e : TypeId}
    (h1 : P.underlying t = some (.slice e)) (h2 : P.underlying e = some (.int k)) (h3 : P.cellsOf e = 1) {W : World} {a : Option Addr} {l c : Nat} {x : DataW H × List MemPlace}
    (h : ∃ fuel, DataW.trod enc P W 0 (fun _ => true) true fuel t (Value.cells (.slice a l c)).toList = some x) : ∃ xs : List Nat, Sl k W a l c xs ∧ ∀ d ∈ xs, d < M := by
  obtain ⟨fuel, hf⟩ := h
  rcases open_ints h1 h2 h3 hf with ⟨hcs, _⟩ | ⟨x, l', c', zs, hcs, _, hl, hm, hz, _, hcell, hwz⟩
  · simp [Value.cells] at hcs
    obtain ⟨rfl, rfl, rfl⟩ := hcs
    exact ⟨[], Sl.nilS _ _ (by omega) (fun _ => rfl), by simp⟩
  · simp [Value.cells] at hcs
    obtain ⟨rfl, rfl, rfl⟩ := hcs
    exact sl_of_ints hk hl hm (by simpa using hz) hcell hwz
theorem open_slz {P : Program} {H : Type} {enc : TypeId × Value → H} {k : IntKind} {M : Nat} (hk : ∀ a : Int, (Lit.int k a).wf = true → ∃ n : Nat, a = (n : Int) ∧ n < M) {t e : TypeId}
    (h1 : P.underlying t = some (.slice e)) (h2 : P.underlying e = some (.int k)) (h3 : P.cellsOf e = 1) {W : World} {a : Option Addr} {l c : Nat} {d : DataW H} {p : List MemPlace}
    (h : ∃ fuel, DataW.trod enc P W 0 (fun _ => true) true fuel t (Value.cells (.slice a l c)).toList = some (d, p))
    (hz : ∀ elems spare, d = .slice elems spare → (elems.length + spare.length) * P.bytesOf e ≤ reachBytes) : ∃ xs : List Nat, Sl k W a l c xs ∧ (∀ d ∈ xs, d < M) ∧ l * P.bytesOf e ≤ reachBytes := by
  obtain ⟨xs, h5, h6⟩ := open_sl hk h1 h2 h3 h
  refine ⟨xs, h5, h6, ?_⟩
  obtain ⟨fuel, hf⟩ := h
  rcases open_ints h1 h2 h3 hf with ⟨hcs, _⟩ | ⟨x, l', c', zs, hcs, _, hl, hm, hlen, hx, _, _⟩
  · simp [Value.cells] at hcs
    obtain ⟨rfl, rfl, rfl⟩ := hcs
    simp
  · simp [Value.cells] at hcs
    obtain ⟨rfl, rfl, rfl⟩ := hcs
    simp only [Prod.mk.injEq] at hx
    have := hz _ _ hx.1
    have hlen' : zs.length = c := by simpa using hlen
    refine Nat.le_trans (Nat.mul_le_mul_right _ ?_) this
    simp [lits]
    omega
end Go.Proofs.YtnophelfpoldfaaGreatDoor

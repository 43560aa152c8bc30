/- The reference's numbers as digits: Num, Sub. -/
import Derived.Test.YtibjkpejbihcpaaRf1
namespace Go.Proofs.Ytibjkpejbihcpaa
open Go.RowKit

/-- the answer of Num -/
def NumRes (w : World) (x : Nat) (e : Ending) (w' : World) : Prop :=
  e = .returned (.tuple #[.int .u64 ((if x < 18446744073709551616 then x else 0 : Nat) : Int), .bool (decide (x < 18446744073709551616))]) ∧ w = w'
theorem num_big {w : World} {x : Nat} {xs : List Nat} (hx : Dig xs x) (h : 8 < xs.length) : NumRes w x (.returned (.tuple #[.int .u64 0, .bool false])) w := by
  have h1 := hx.ge (by omega)
  have h2 : 256 ^ 8 ≤ 256 ^ (xs.length - 1) := pow256_le (by omega)
  have h3 : ¬ x < 18446744073709551616 := by omega
  exact ⟨by simp [h3], rfl⟩
theorem num_small {w : World} {x : Nat} {xs : List Nat} (hx : Dig xs x) (h : xs.length ≤ 8) {z : Int} (hz : z = (val xs : Int)) : NumRes w x (.returned (.tuple #[.int .u64 z, .bool true])) w := by
  have h1 := hx.lt
  have h2 : 256 ^ xs.length ≤ 256 ^ 8 := pow256_le h
  have h3 : x < 18446744073709551616 := by omega
  rw [hx.1] at hz
  subst hz
  exact ⟨by simp [h3], rfl⟩
theorem num_step {xs : List Nat} {n j : Nat} (h : Dg xs) (hl : xs.length = n) (hn : n ≤ 8) (hj : j < n) :
    val (xs.drop j) = xs.getD j 0 + 256 * val (xs.drop (j + 1)) ∧ 256 * val (xs.drop (j + 1)) < 18446744073709551616 ∧ xs.getD j 0 + 256 * val (xs.drop (j + 1)) < 18446744073709551616 := by
  have e : val (xs.drop j) = xs.getD j 0 + 256 * val (xs.drop (j + 1)) := by rw [drop_eq_cons (by omega)]; rfl
  have h1 := val_drop_lt h j
  have h2 : 256 ^ (xs.length - j) ≤ 256 ^ 8 := pow256_le (by omega)
  omega

set_option maxHeartbeats 1000000 in
theorem num_walk (a : Option Addr) (n cap x : Nat) (xs : List Nat) (w : World) (h : Sl .i64 w a n cap xs) (hx : Dig xs x) (hn : n ≤ 4294967296) :
    Calls Try.prog 17 #[.slice a n cap] w (NumRes w x) := by
  have HL := hid h.len
  have gx := hx.2.1
  obtain ⟨b, off, ha, hc⟩ := h.opened
  by_cases h8 : 8 < n
  · have fin := num_big (w := w) hx (by rw [HL.out]; exact h8)
    have FIN := hid fin; clear fin
    go_enter Try.func17, Try.ntmps17
    go_wp2
    go_ret2
    exact FIN.out
  · have fin := fun (z : Int) (hz : z = (val xs : Int)) => num_small (w := w) hx (by rw [HL.out]; omega) hz
    have stp := fun j hj => num_step gx HL.out (by omega) (j := j) hj
    have FIN := hid fin; clear fin
    clear h gx hx
    go_enter Try.func17, Try.ntmps17
    go_wp2
    go_loop [4, 5] (fun x0 i0 => ∃ (k v : Nat), k ≤ n ∧ i0 = .int .i64 ((k : Int) - 1) ∧ x0 = .int .u64 v ∧ Hid (v = val (xs.drop k))) (fun _ i0 => (intOf i0 + 1).toNat)
    case atStart => exact ⟨n, 0, by omega, rfl, rfl, hid (by rw [List.drop_of_length_le (by rw [HL.out]; omega)]; rfl)⟩
    case round =>
      obtain ⟨k, v, hk, rfl, rfl, hv⟩ := hrel
      by_cases h0 : 0 < k
      · obtain ⟨j, rfl⟩ : ∃ j, k = j + 1 := ⟨k - 1, by omega⟩
        obtain rfl := ha (by omega)
        have hcx := hc j (by omega)
        obtain ⟨e1, e2, e3⟩ := stp j (by omega)
        rw [← hv.out] at e1 e2 e3
        generalize hd : xs.getD j 0 = d at *
        have E1 := hid e1
        clear e1 hd hc stp
        have ej : (((j + 1 : Nat) : Int) - 1) = (j : Int) := by omega
        rw [ej]
        clear ej
        go_wp2
        go_round
        case rel => exact ⟨j, d + 256 * v, by omega, rfl, by go_num, hid E1.out.symm⟩
        case measure => simp [intOf]
      · obtain rfl : k = 0 := by omega
        go_wp2
        go_ret2
        exact FIN.out _ (by rw [hv.out]; rfl)

theorem cmp_le (x y : Nat) : decide (cmpI x y ≤ 0) = decide (x ≤ y) := by
  unfold cmpI
  rw [decide_eq_decide]
  split
  · constructor <;> intro <;> omega
  · split <;> constructor <;> intro <;> omega
theorem Dig.len8 {xs : List Nat} {x : Nat} (h : Dig xs x) (hx : x < 18446744073709551616) : xs.length ≤ 8 := h.len_le (by omega)
theorem Dig.len16 {xs : List Nat} {x : Nat} (h : Dig xs x) (hx : x < 18446744073709551616 * 18446744073709551616) : xs.length ≤ 16 := h.len_le (by omega)
theorem mul_lt128 {x y : Nat} (hx : x < 18446744073709551616) (hy : y < 18446744073709551616) : x * y < 18446744073709551616 * 18446744073709551616 := Nat.mul_lt_mul_of_lt_of_lt hx hy

end Go.Proofs.Ytibjkpejbihcpaa

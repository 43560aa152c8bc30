/- Plain facts on a division of two digits by one (Knuth's), digits below 2^32. No program in sight. -/
import Derived.WalkKit
import Derived.Lib.BitFns
import Derived.Laws.Bits64b
namespace Go.Proofs.YthccjefhlmngbaaDoor.Dv

theorem bitLenAux_spec : ∀ f x : Nat, x < 2 ^ f → x < 2 ^ Lib.bitLenAux f x ∧ (0 < x → 0 < Lib.bitLenAux f x ∧ 2 ^ (Lib.bitLenAux f x - 1) ≤ x) ∧ Lib.bitLenAux f x ≤ f
  | 0, x, h => by simp at h; subst h; simp [Lib.bitLenAux]
  | f + 1, x, h => by
    unfold Lib.bitLenAux
    by_cases h0 : x = 0
    · subst h0; simp
    · rw [if_neg h0]
      have ih := bitLenAux_spec f (x / 2) (by rw [Nat.pow_succ] at h; omega)
      obtain ⟨h1, h2, h3⟩ := ih
      refine ⟨?_, fun _ => ⟨by omega, ?_⟩, by omega⟩
      · rw [Nat.add_comm, Nat.pow_succ]; omega
      · by_cases hx : x / 2 = 0
        · rw [hx]
          have : Lib.bitLenAux f 0 = 0 := by cases f <;> simp [Lib.bitLenAux]
          rw [this]; simp; omega
        · obtain ⟨g1, g2⟩ := h2 (by omega)
          obtain ⟨k, hk⟩ : ∃ k, Lib.bitLenAux f (x / 2) = k + 1 := ⟨Lib.bitLenAux f (x / 2) - 1, by omega⟩
          rw [hk] at g2 ⊢
          rw [show 1 + (k + 1) - 1 = k + 1 from by omega, Nat.pow_succ]
          simp at g2
          omega
theorem norm (y : Nat) (h0 : 0 < y) (h : y < 18446744073709551616) : Lib.bitLen y ≤ 64 ∧ 0 < Lib.bitLen y ∧ 9223372036854775808 ≤ y * 2 ^ (64 - Lib.bitLen y) ∧ y * 2 ^ (64 - Lib.bitLen y) < 18446744073709551616 := by
  obtain ⟨h1, h2, h3⟩ := bitLenAux_spec 64 y h
  obtain ⟨h4, h5⟩ := h2 h0
  change _ < 2 ^ Lib.bitLen y at h1
  change 0 < Lib.bitLen y at h4
  change 2 ^ (Lib.bitLen y - 1) ≤ y at h5
  change Lib.bitLen y ≤ 64 at h3
  refine ⟨h3, h4, ?_, ?_⟩
  · have := Nat.mul_le_mul_right (2 ^ (64 - Lib.bitLen y)) h5
    rw [← Nat.pow_add, show Lib.bitLen y - 1 + (64 - Lib.bitLen y) = 63 from by omega] at this
    exact this
  · have := Nat.mul_lt_mul_of_pos_right h1 (Nat.two_pow_pos (64 - Lib.bitLen y))
    rw [← Nat.pow_add, show Lib.bitLen y + (64 - Lib.bitLen y) = 64 from by omega] at this
    exact this

theorem lin1 {u1 u0 v1 v0 A C : Nat} (a1 : 4294967296 * v1 ≤ A) (a2 : 4294967296 * v0 ≤ C) (h2 : u0 < 4294967296) (h3 : u1 < 4294967296 * v1 + v0) : 4294967296 * u1 + u0 < 4294967296 * A + C := by omega
theorem lin2 {u1 u0 r A C : Nat} (h4 : A + r = u1) (hc : 4294967296 * r + u0 < C) : 4294967296 * u1 + u0 < 4294967296 * A + C := by omega
theorem lin3 {u1 u0 r A C : Nat} (h4 : A + r = u1) (hc : C ≤ 4294967296 * r + u0) : 4294967296 * A + C ≤ 4294967296 * u1 + u0 := by omega
theorem lin4 {A C r1 w0 U N : Nat} (hN : 4294967296 * U + w0 = N) (h1 : U = A + r1) (h3 : C ≤ 4294967296 * r1 + w0) : N = 4294967296 * A + C + (4294967296 * r1 + w0 - C) := by
  rw [Nat.add_assoc, Nat.add_sub_cancel' h3, ← hN, h1]; omega

/-- q is a guess, not too small, of what (u1, u0) has of (v1, v0); r goes with it -/
structure DvSt (u1 u0 v1 v0 q r : Nat) : Prop where
  bv0 : v0 < 4294967296
  bv1 : 2147483648 ≤ v1 ∧ v1 < 4294967296
  bu0 : u0 < 4294967296
  bu1 : u1 < 4294967296 * v1 + v0
  eq : q * v1 + r = u1
  ge : 4294967296 * u1 + u0 < (q + 1) * (4294967296 * v1 + v0)
  le : q ≤ 4294967297

theorem DvSt.start {u1 u0 v1 v0 : Nat} (h0 : v0 < 4294967296) (h1 : 2147483648 ≤ v1 ∧ v1 < 4294967296) (h2 : u0 < 4294967296) (h3 : u1 < 4294967296 * v1 + v0) : DvSt u1 u0 v1 v0 (u1 / v1) (u1 % v1) := by
  have e := Nat.div_add_mod u1 v1
  have hm := Nat.mod_lt u1 (show 0 < v1 by omega)
  rw [Nat.mul_comm] at e
  refine ⟨h0, h1, h2, h3, e, ?_, ?_⟩
  · generalize u1 / v1 = q at *
    have e2 : u1 + 1 ≤ (q + 1) * v1 := by rw [Nat.add_mul, Nat.one_mul]; omega
    have e3 := Nat.mul_le_mul_left 4294967296 e2
    rw [Nat.mul_add, Nat.mul_left_comm]
    have : 0 ≤ (q + 1) * v0 := Nat.zero_le _
    omega
  · have : u1 / v1 < 4294967298 := by
      rw [Nat.div_lt_iff_lt_mul (by omega)]
      omega
    omega
theorem DvSt.r_lt {u1 u0 v1 v0 : Nat} (h1 : 2147483648 ≤ v1 ∧ v1 < 4294967296) (_h : DvSt u1 u0 v1 v0 (u1 / v1) (u1 % v1)) : u1 % v1 < 4294967296 := by
  have hm := Nat.mod_lt u1 (show 0 < v1 by omega)
  omega
theorem expand (q v1 v0 : Nat) : q * (4294967296 * v1 + v0) = 4294967296 * (q * v1) + q * v0 := by rw [Nat.mul_add, Nat.mul_left_comm]
theorem DvSt.step {u1 u0 v1 v0 q r : Nat} (h : DvSt u1 u0 v1 v0 q r) (hc : 4294967296 ≤ q ∨ 4294967296 * r + u0 < q * v0) : 0 < q ∧ DvSt u1 u0 v1 v0 (q - 1) (r + v1) := by
  obtain ⟨h0, h1, h2, h3, h4, h5, h6⟩ := h
  have hq : 0 < q := by
    rcases Nat.eq_zero_or_pos q with h | h
    · subst h; simp at hc
    · exact h
  obtain ⟨p, rfl⟩ : ∃ p, q = p + 1 := ⟨q - 1, by omega⟩
  refine ⟨hq, h0, h1, h2, h3, ?_, ?_, by omega⟩
  · simp only [Nat.add_sub_cancel]; rw [Nat.add_mul, Nat.one_mul] at h4; omega
  · simp only [Nat.add_sub_cancel]
    rw [expand]
    rcases hc with hc | hc
    · exact lin1 (Nat.mul_le_mul_right v1 hc) (Nat.mul_le_mul_right v0 hc) h2 h3
    · exact lin2 h4 hc
theorem DvSt.done {u1 u0 v1 v0 q r : Nat} (h : DvSt u1 u0 v1 v0 q r) (hc : q * v0 ≤ 4294967296 * r + u0) : q * (4294967296 * v1 + v0) ≤ 4294967296 * u1 + u0 ∧ 4294967296 * u1 + u0 < q * (4294967296 * v1 + v0) + (4294967296 * v1 + v0) := by
  obtain ⟨h0, h1, h2, h3, h4, h5, h6⟩ := h
  rw [Nat.add_mul, Nat.one_mul] at h5
  refine ⟨?_, h5⟩
  rw [expand]
  exact lin3 h4 hc
theorem lin5 {q r u0 C : Nat} (a1 : C ≤ q * 4294967295) (hr : 4294967296 ≤ r) (hq : q ≤ 4294967296) : C ≤ 4294967296 * r + u0 := by omega
theorem DvSt.quit {u1 u0 v1 v0 q r : Nat} (h : DvSt u1 u0 v1 v0 q r) (hr : 4294967296 ≤ r) (hq : q ≤ 4294967296) : q * v0 ≤ 4294967296 * r + u0 :=
  lin5 (Nat.mul_le_mul_left q (Nat.le_of_lt_succ h.bv0)) hr hq
/-- when it is right -/
def Right (u1 u0 v1 v0 q : Nat) : Prop := q * (4294967296 * v1 + v0) ≤ 4294967296 * u1 + u0 ∧ 4294967296 * u1 + u0 < q * (4294967296 * v1 + v0) + (4294967296 * v1 + v0)
theorem Right.lt {u1 u0 v1 v0 q : Nat} (h : Right u1 u0 v1 v0 q) (hu0 : u0 < 4294967296) (hu : u1 < 4294967296 * v1 + v0) : q < 4294967296 := by
  obtain ⟨h1, h2⟩ := h
  apply Nat.lt_of_not_le; intro hq
  have := Nat.mul_le_mul_right (4294967296 * v1 + v0) hq
  omega
/-- both digits -/
theorem both {M y s V u1 u0 w0 q1 q0 r1 : Nat} (hV : V = y * 2 ^ s) (hN : 4294967296 * (4294967296 * u1 + u0) + w0 = M * 2 ^ s)
    (h1 : 4294967296 * u1 + u0 = q1 * V + r1) (h2 : 4294967296 * r1 + w0 < q0 * V + V) (h3 : q0 * V ≤ 4294967296 * r1 + w0) (hy : 0 < y) :
    M / y = 4294967296 * q1 + q0 ∧ (4294967296 * r1 + w0 - q0 * V) / 2 ^ s = M % y := by
  have hs := Nat.two_pow_pos s
  have e1 : M * 2 ^ s = (4294967296 * q1 + q0) * V + (4294967296 * r1 + w0 - q0 * V) := by
    rw [Nat.add_mul, Nat.mul_assoc]
    exact lin4 hN h1 h3
  have hlt : 4294967296 * r1 + w0 - q0 * V < V := Nat.sub_lt_left_of_lt_add h3 h2
  obtain ⟨t, ht⟩ : ∃ t, t = 4294967296 * r1 + w0 - q0 * V := ⟨_, rfl⟩
  obtain ⟨Q, hQ⟩ : ∃ Q, Q = 4294967296 * q1 + q0 := ⟨_, rfl⟩
  rw [← ht, ← hQ] at e1
  rw [← ht] at hlt
  rw [← ht, ← hQ]
  clear ht hQ h1 h2 h3 hN
  subst hV
  have e2 : M * 2 ^ s = Q * y * 2 ^ s + t := by rw [e1, Nat.mul_assoc]
  have hle : Q * y ≤ M := by
    apply Nat.le_of_mul_le_mul_right _ hs
    omega
  obtain ⟨R, hR⟩ : ∃ R, M = Q * y + R := ⟨M - Q * y, by omega⟩
  have e3 : t = R * 2 ^ s := by rw [hR, Nat.add_mul] at e2; omega
  have hRy : R < y := by
    rw [e3] at hlt
    exact Nat.lt_of_mul_lt_mul_right hlt
  rw [e3, Nat.mul_div_cancel _ hs, hR]
  constructor
  · rw [Nat.mul_comm Q y, Nat.mul_add_div hy, Nat.div_eq_of_lt hRy, Nat.add_zero]
  · rw [Nat.mul_comm Q y, Nat.mul_add_mod, Nat.mod_eq_of_lt hRy]

theorem sh_lin {H L Y T : Nat} (e3 : L < 18446744073709551616 * T) (e4 : H + T ≤ Y) (hY : Y < 18446744073709551616) :
    4294967296 * (4294967296 * (H + L / 18446744073709551616) + L % 18446744073709551616 / 4294967296) + L % 18446744073709551616 % 4294967296 = 18446744073709551616 * H + L ∧
      H + L / 18446744073709551616 < Y ∧ H < 18446744073709551616 ∧ L / 18446744073709551616 < T := by
  refine ⟨?_, ?_, ?_, ?_⟩ <;> omega
/-- the shifted dividend -/
theorem shifted {hi lo y s : Nat} (hs : s ≤ 63) (hlo : lo < 18446744073709551616) (h : hi < y) (hY : y * 2 ^ s < 18446744073709551616) :
    4294967296 * (4294967296 * (hi * 2 ^ s + lo / 2 ^ (64 - s)) + lo * 2 ^ s % 18446744073709551616 / 4294967296) + lo * 2 ^ s % 18446744073709551616 % 4294967296 = (18446744073709551616 * hi + lo) * 2 ^ s ∧
      hi * 2 ^ s + lo / 2 ^ (64 - s) < y * 2 ^ s ∧ hi * 2 ^ s < 18446744073709551616 ∧ lo / 2 ^ (64 - s) < 2 ^ s := by
  have e : 2 ^ (64 - s) * 2 ^ s = 18446744073709551616 := by rw [← Nat.pow_add, show 64 - s + s = 64 from by omega]
  have e1 : lo / 2 ^ (64 - s) = lo * 2 ^ s / 18446744073709551616 := by rw [← e, Nat.mul_div_mul_right _ _ (Nat.two_pow_pos s)]
  have e2 : (18446744073709551616 * hi + lo) * 2 ^ s = 18446744073709551616 * (hi * 2 ^ s) + lo * 2 ^ s := by rw [Nat.add_mul, Nat.mul_assoc]
  have e3 : lo * 2 ^ s < 18446744073709551616 * 2 ^ s := Nat.mul_lt_mul_of_pos_right hlo (Nat.two_pow_pos s)
  have e4 : (hi + 1) * 2 ^ s ≤ y * 2 ^ s := Nat.mul_le_mul_right _ h
  rw [Nat.add_mul, Nat.one_mul] at e4
  rw [e1, e2]
  exact sh_lin e3 e4 hY
theorem or_sum {H l s : Nat} (h : l < 2 ^ s) : H * 2 ^ s ||| l = H * 2 ^ s + l := by
  rw [Nat.mul_comm, Nat.two_pow_add_eq_or_of_lt h]
theorem wrap3 (u w q Y r : Nat) (h : 4294967296 * u + w = q * Y + r) (hr : r < 18446744073709551616) :
    IntKind.u64.wrap (IntKind.u64.wrap (IntKind.u64.wrap ((u : Int) * 4294967296) + (w : Int)) - IntKind.u64.wrap ((q : Int) * (Y : Int))) = (r : Int) := by
  rw [← Int.natCast_mul]
  generalize q * Y = p at *
  simp only [IntKind.wrap_u64]
  omega
theorem bitsAnd (a : Nat) (ha : a < 18446744073709551616) : bits .and .u64 (a : Int) 4294967295 = ((a % 4294967296 : Nat) : Int) := by
  have h := bits_and_u64_nat a 4294967295 ha (by omega)
  have e : a &&& 4294967295 = a % 4294967296 := Nat.and_two_pow_sub_one_eq_mod a 32
  rw [e] at h
  exact h
/-- one digit: what the guess needs to be computed -/
theorem guess {u1 w1 v1 v0 : Nat} (h0 : v0 < 4294967296) (h1 : 2147483648 ≤ v1 ∧ v1 < 4294967296) (h2 : w1 < 4294967296) (h3 : u1 < 4294967296 * v1 + v0) (h3' : u1 < 18446744073709551616) :
    ∃ q r : Nat, ((u1 : Int) / (v1 : Int) = (q : Int)) ∧ ((u1 : Int) - (q : Int) * (v1 : Int) = (r : Int)) ∧ 0 ≤ (q : Int) * (v1 : Int) ∧ (q : Int) * (v1 : Int) ≤ 18446744073709551615 ∧ r < 4294967296 ∧ q ≤ 4294967297 ∧ DvSt u1 w1 v1 v0 q r := by
  have h := DvSt.start h0 h1 h2 h3
  have hm := Nat.mod_lt u1 (show 0 < v1 by omega)
  have he := h.eq
  refine ⟨u1 / v1, u1 % v1, by rw [Int.natCast_ediv], ?_, ?_, ?_, by omega, h.le, h⟩
  · rw [← Int.natCast_mul]; omega
  · rw [← Int.natCast_mul]; omega
  · rw [← Int.natCast_mul]; omega
theorem DvSt.mul_bd {u1 u0 v1 v0 q r : Nat} (h : DvSt u1 u0 v1 v0 q r) (hq : q < 4294967296) : 0 ≤ (q : Int) * (v0 : Int) ∧ (q : Int) * (v0 : Int) ≤ 18446744073709551615 := by
  have h1 : q * v0 ≤ 4294967295 * 4294967295 := Nat.mul_le_mul (Nat.le_of_lt_succ hq) (Nat.le_of_lt_succ h.bv0)
  rw [← Int.natCast_mul]
  omega
end Go.Proofs.YthccjefhlmngbaaDoor.Dv

/- The walks of last, has, Count. -/
import Derived.Test.YtnfklnbdebcpiaaDoorSece
namespace Go.Proofs.YtnfklnbdebcpiaaDoor
open Go.RowKit

def lastV (i n : Nat) : Value := match lastN i n with
  | none => .tuple #[.int .u64 0, .bool false]
  | some p => .tuple #[.int .u64 (p : Int), .bool true]
def LastRes (i n : Nat) (w : World) (e : Ending) (w' : World) : Prop := e = .returned (lastV i n) ∧ w' = w
set_option maxRecDepth 100000 in
set_option maxHeartbeats 4000000 in
theorem last_walk (i n : Nat) (hi : i ≤ 48) (hn : n ≤ 281474976710656) (w : World) :
    Calls Tryd.prog 26 #[.int .i64 (i : Int), .int .u64 (n : Int)] w (LastRes i n w) := by
  go_enter Tryd.func26, Tryd.ntmps26
  by_cases h48 : i = 48
  · have t0 : ((i : Int) == 48) = true := by rw [beq_iff_eq]; omega
    by_cases hb : 281474976710655 < n
    · have t1 : decide ((n : Int) > 281474976710655) = true := by rw [decide_eq_true_eq]; omega
      have e : lastV i n = .tuple #[.int .u64 ((0 : Nat) : Int), .bool true] := by unfold lastV lastN; rw [if_pos h48, if_pos hb]
      have E := hid e
      clear h48 hb e
      go_wp2
      go_ret2
      exact ⟨by rw [E.out]; rfl, rfl⟩
    · have t1 : decide ((n : Int) > 281474976710655) = false := by rw [decide_eq_false_iff_not]; omega
      have e : lastV i n = .tuple #[.int .u64 0, .bool false] := by unfold lastV lastN; rw [if_pos h48, if_neg hb]
      have E := hid e
      clear h48 hb e
      go_wp2
      go_ret2
      exact ⟨by rw [E.out]; rfl, rfl⟩
  · have t0 : ((i : Int) == 48) = false := by rw [beq_eq_false_iff_ne]; omega
    obtain ⟨ht1, ht2⟩ := top_eq (show i < 48 by omega)
    obtain ⟨u, hu⟩ : ∃ u : Nat, u = 281474976710655 / 2 ^ i := ⟨_, rfl⟩
    have e1 : (281474976710655 : Int) / 2 ^ i = (u : Int) := by
      have := shr_int 281474976710655 i
      rw [← hu] at this; exact this
    obtain ⟨T, hT⟩ : ∃ T : Nat, T = u * 2 ^ i := ⟨_, rfl⟩
    have hT48 : T ≤ 281474976710655 := by
      have := Nat.two_pow_pos i
      rw [hu] at hT; omega
    have e2 : IntKind.u64.wrap ((u : Int) * 2 ^ i) = (T : Int) := by
      have e : (u : Int) * 2 ^ i = (T : Int) := by rw [hT, Int.natCast_mul, Int.natCast_pow]; rfl
      rw [e, IntKind.wrap_u64]; omega
    obtain ⟨d, hd⟩ : ∃ d : Nat, d = 281474976710655 - T := ⟨_, rfl⟩
    have e3 : 281474976710655 - (T : Int) = (d : Int) := by omega
    have hL : lastN i n = if n = 0 ∨ n ≤ d then none else some (T - (T - (281474976710655 - (n - 1))) / (2 * 2 ^ i) * (2 * 2 ^ i)) := by
      unfold lastN; rw [if_neg h48, hd, hT, hu]
    have hp48 : 2 ^ i < 281474976710656 := by
      have h : 2 ^ i < 2 ^ 48 := Nat.pow_lt_pow_right (by omega) (by omega)
      omega
    by_cases h0 : n = 0
    · have t1 : ((n : Int) == 0) = true := by rw [beq_iff_eq]; omega
      have e : lastV i n = .tuple #[.int .u64 0, .bool false] := by unfold lastV; rw [hL, if_pos (.inl h0)]
      have E := hid e
      clear e hL hT hu ht1 ht2 h0 hd h48 hp48
      go_wp2
      go_ret2
      exact ⟨by rw [E.out]; rfl, rfl⟩
    · have t1 : ((n : Int) == 0) = false := by rw [beq_eq_false_iff_ne]; omega
      by_cases hdn : n ≤ d
      · have t2 : decide (d ≥ n) = true := by rw [decide_eq_true_eq]; omega
        have t3 : decide ((d : Int) ≥ (n : Int)) = true := by rw [decide_eq_true_eq]; omega
        have e : lastV i n = .tuple #[.int .u64 0, .bool false] := by unfold lastV; rw [hL, if_pos (.inr hdn)]
        have E := hid e
        clear e hL hT hu ht1 ht2 h0 hd h48 hdn hp48
        go_wp2
        go_ret2
        exact ⟨by rw [E.out]; rfl, rfl⟩
      · have t2 : decide (d ≥ n) = false := by rw [decide_eq_false_iff_not]; omega
        have t3 : decide ((d : Int) ≥ (n : Int)) = false := by rw [decide_eq_false_iff_not]; omega
        obtain ⟨n1, hn1⟩ : ∃ n1 : Nat, n1 = n - 1 := ⟨_, rfl⟩
        have e4 : (n : Int) - 1 = (n1 : Int) := by omega
        obtain ⟨lo, hlo⟩ : ∃ lo : Nat, lo = 281474976710655 - n1 := ⟨_, rfl⟩
        have e5 : 281474976710655 - (n1 : Int) = (lo : Int) := by omega
        obtain ⟨S, hS⟩ : ∃ S : Nat, S = 2 * 2 ^ i := ⟨_, rfl⟩
        have hS48 : S < 562949953421312 := by omega
        have hS0 : 0 < S := by have := Nat.two_pow_pos i; omega
        have e6 : IntKind.u64.wrap (2 * 2 ^ i) = (S : Int) := by
          have e : (2 : Int) * 2 ^ i = (S : Int) := by rw [hS, Int.natCast_mul, Int.natCast_pow]; rfl
          rw [e, IntKind.wrap_u64]; omega
        obtain ⟨f, hf⟩ : ∃ f : Nat, f = T - lo := ⟨_, rfl⟩
        have e7 : (T : Int) - (lo : Int) = (f : Int) := by omega
        obtain ⟨q, hq⟩ : ∃ q : Nat, q = f / S := ⟨_, rfl⟩
        have e8 : (f : Int) / (S : Int) = (q : Int) := by rw [hq]; rfl
        obtain ⟨g, hg⟩ : ∃ g : Nat, g = q * S := ⟨_, rfl⟩
        have hgf : g ≤ f := by rw [hg, hq]; exact Nat.div_mul_le_self _ _
        have e9 : (q : Int) * (S : Int) = (g : Int) := by rw [hg, Int.natCast_mul]
        obtain ⟨p, hp⟩ : ∃ p : Nat, p = T - g := ⟨_, rfl⟩
        have e10 : (T : Int) - (g : Int) = (p : Int) := by omega
        have e : lastV i n = .tuple #[.int .u64 (p : Int), .bool true] := by
          unfold lastV; rw [hL, if_neg (by omega), ← hS, ← hn1, ← hlo, ← hf, ← hq, ← hg, ← hp]
        have E := hid e
        have z1 : ((S : Int) == 0) = false := by rw [beq_eq_false_iff_ne]; omega
        have B1 : n1 ≤ 281474976710655 := by omega
        have B2 : lo ≤ T := by omega
        have B3 : f ≤ T := by omega
        have B4 : g ≤ T := by omega
        have B5 : p ≤ T := by omega
        have B6 : q ≤ f := by rw [hq]; exact Nat.div_le_self _ _
        clear e hL hT hu ht1 ht2 hS hq hg hd h48 hp48 hn1 hlo hf hp
        go_wp2
        go_ret2
        exact ⟨by rw [E.out]; rfl, rfl⟩
def HasRes (i n : Nat) (w : World) (e : Ending) (w' : World) : Prop := e = .returned (.bool (lastN i n).isSome) ∧ w' = w
set_option maxRecDepth 100000 in
set_option maxHeartbeats 4000000 in
theorem has_walk (i n cb : Nat) (Kp : KM) (hi : i ≤ 48) (w : World) (h : ChAt w cb Kp n) :
    Calls Tryd.prog 25 #[.pointer (some ⟨cb, 0, none⟩), .int .i64 (i : Int)] w (HasRes i n w) := by
  have hn48 : n ≤ 281474976710656 := by obtain ⟨cs, _, h2⟩ := h.st; exact h2.le
  have c1 := h.count
  clear h
  go_enter Tryd.func25, Tryd.ntmps25
  have lw := fun w => last_walk i n hi hn48 w
  have E : (∃ p : Nat, lastV i n = .tuple #[.int .u64 (p : Int), .bool (lastN i n).isSome]) := by
    unfold lastV
    cases hl : lastN i n with
    | none => exact ⟨0, rfl⟩
    | some p => exact ⟨p, rfl⟩
  obtain ⟨p, hp⟩ := E
  unfold LastRes at lw
  rw [hp] at lw
  obtain ⟨bb, hbb⟩ : ∃ bb, bb = (lastN i n).isSome := ⟨_, rfl⟩
  rw [← hbb] at lw
  have HBB := hid hbb
  have LW := hid lw
  clear lw hp hbb
  go_wp2_with fail
  refine (LW.out _).mono ?_
  rintro e w' ⟨rfl, rfl⟩
  go_wp2
  go_ret
  exact ⟨by rw [← HBB.out]; rfl, rfl⟩
def SameRes (v : Value) (w : World) (e : Ending) (w' : World) : Prop := e = .returned v ∧ w' = w
set_option maxRecDepth 100000 in
set_option maxHeartbeats 4000000 in
theorem count_walk (n cb : Nat) (Kp : KM) (w : World) (h : ChAt w cb Kp n) :
    Calls Tryd.prog 14 #[.pointer (some ⟨cb, 0, none⟩)] w (SameRes (.int .u64 (n : Int)) w) := by
  have c1 := h.count
  clear h
  go_enter Tryd.func14, Tryd.ntmps14
  go_wp2
  go_ret
  exact ⟨rfl, rfl⟩
end Go.Proofs.YtnfklnbdebcpiaaDoor

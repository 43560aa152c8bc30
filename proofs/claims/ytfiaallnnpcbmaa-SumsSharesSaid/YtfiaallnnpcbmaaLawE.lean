/- The walks of the statements SumsParts, SumsTurns, SumsBack. -/
import Derived.Test.YtfiaallnnpcbmaaLawD
namespace Go.Proofs.Ytfiaallnnpcbmaa
open Go.RowKit

def TrueQ (w : World) (e : Ending) (w' : World) : Prop := e = .returned (.bool true) ∧ Qt w w'
theorem part_ex1 : partV 7 3 2 false = .tuple #[.int .u64 10, .int .i64 0] := rfl
theorem part_ex2 : partV 7 3 2 true = .tuple #[.int .u64 11, .int .i64 0] := rfl
theorem partfn_walk (w : World) : Calls Try.prog 25 #[] w (TrueQ w) := by
  go_enter Try.func25, Try.ntmps25
  go_wp2_with fail
  refine (part_walk 7 3 2 false (by decide) (by decide) (by decide) _).mono ?_
  rintro e w1 ⟨rfl, q1⟩
  rw [part_ex1]
  go_wp2_with fail
  refine (part_walk 7 3 2 true (by decide) (by decide) (by decide) _).mono ?_
  rintro e w2 ⟨rfl, q2⟩
  rw [part_ex2]
  go_wp2
  go_ret
  exact ⟨rfl, q1.trans q2⟩

set_option maxHeartbeats 1000000 in
theorem lawParts (a n d : Nat) (up : Bool) (ha : a < 18446744073709551616) (hn : n < 18446744073709551616) (hd : d < 18446744073709551616) (w : World) :
    Calls Try.prog 8 #[.int .u64 a, .int .u64 n, .int .u64 d, .bool up] w fun e w' => e = .returned (.bool true) ∧ Below w.heap.size w w' := by
  have hv : (∃ x er, partV a n d up = .tuple #[.int .u64 (x : Int), .int .i64 er]) := by
    by_cases h0 : d = 0
    · subst h0; exact ⟨0, 12, rfl⟩
    · by_cases h1 : partN a n d up < 18446744073709551616
      · exact ⟨_, _, partV_yes h0 h1⟩
      · exact ⟨0, 10, partV_no h0 h1⟩
  obtain ⟨x, er, hv⟩ := hv
  have HV := hid hv
  clear hv
  go_enter Try.func8, Try.ntmps8
  go_wp2_with fail
  refine (partfn_walk _).mono ?_
  rintro e w1 ⟨rfl, q1⟩
  go_wp2_with fail
  refine (part_walk a n d up ha hn hd _).mono ?_
  rintro e w2 ⟨rfl, q2⟩
  rw [HV.out]
  go_wp2_with fail
  refine (rpart_walk a n d up ha hn hd _).mono ?_
  rintro e w3 ⟨rfl, b3⟩
  rw [HV.out]
  have b := bstep ((q1.trans q2).below w.heap.size) b3
  clear q1 q2 b3
  go_wp2
  go_ret
  exact ⟨rfl, b⟩

theorem turns_facts {a n d : Nat} (hd : 0 < d) : partN a n d false = a * n / d ∧ (partN a n d true = a * n / d ∨ partN a n d true = a * n / d + 1) ∧ a * n / d * d ≤ a * n ∧ a * n ≤ partN a n d true * d := by
  have e := Nat.div_add_mod (a * n) d
  have r := Nat.mod_lt (a * n) hd
  have e0 : partN a n d false = a * n / d := by simp [partN]
  rw [Nat.mul_comm] at e
  refine ⟨e0, ?_, by omega, ?_⟩
  · unfold partN; by_cases h : 0 < a * n % d <;> simp [h]
  · unfold partN
    by_cases h : 0 < a * n % d
    · simp only [h, and_self, if_true]; rw [Nat.add_mul, Nat.one_mul]; omega
    · simp only [h, and_false, if_false, Nat.add_zero]; omega

set_option maxHeartbeats 2000000 in
theorem lawTurns (a n d : Nat) (ha : a < 18446744073709551616) (hn : n < 18446744073709551616) (hd : d < 18446744073709551616) (w : World) :
    Calls Try.prog 9 #[.int .u64 a, .int .u64 n, .int .u64 d] w fun e w' => e = .returned (.bool true) ∧ Below w.heap.size w w' := by
  have cv0 : decide (2 * 1 ≤ 1 * 1) = false := by decide
  by_cases h0 : d = 0
  · subst h0
    go_enter Try.func9, Try.ntmps9
    go_wp2_with fail
    refine (partfn_walk _).mono ?_
    rintro e w1 ⟨rfl, q1⟩
    go_wp2_with fail
    refine (covers_walk 1 1 2 1 (by decide) (by decide) (by decide) (by decide) _).mono ?_
    rintro e w' ⟨rfl, rfl⟩
    rw [cv0]
    go_wp2_with fail
    refine (part_walk a n 0 false ha hn hd _).mono ?_
    rintro e w2 ⟨rfl, q2⟩
    rw [partV_zero]
    go_wp2_with fail
    refine (part_walk a n 0 true ha hn hd _).mono ?_
    rintro e w3 ⟨rfl, q3⟩
    rw [partV_zero]
    have b := ((q1.trans q2).trans q3).below w.heap.size
    clear q1 q2 q3
    go_wp2
    go_ret
    exact ⟨rfl, b⟩
  · obtain ⟨t1, t2, t3, t4⟩ := turns_facts (a := a) (n := n) (d := d) (by omega)
    have hd0 : ((d : Int) == 0) = false := by simp; omega
    have hd1 : ((d : Int) != 0) = true := by simp; omega
    have PV := fun up h => hid (partV_yes (a := a) (n := n) (up := up) h0 h)
    have PN := fun up h => hid (partV_no (a := a) (n := n) (up := up) h0 h)
    by_cases hf : partN a n d true < 18446744073709551616
    · have hf0 : partN a n d false < 18446744073709551616 := by omega
      have P1 := PV true hf
      have P2 := PV false hf0
      clear PV PN
      have C1 := hid (covers_walk a n (partN a n d false) d ha hn hf0 hd)
      have C2 := hid (covers_walk (partN a n d true) d a n hf hd ha hn)
      rw [decide_eq_true (by rw [t1]; exact t3)] at C1
      rw [decide_eq_true t4] at C2
      have k1 : partN a n d false ≤ partN a n d true := by omega
      have k2 : partN a n d true ≤ partN a n d false + 1 := by omega
      clear t1 t2 t3 t4
      generalize partN a n d false = x at *
      generalize partN a n d true = y at *
      go_enter Try.func9, Try.ntmps9
      go_wp2_with fail
      refine (partfn_walk _).mono ?_
      rintro e w1 ⟨rfl, q1⟩
      go_wp2_with fail
      refine (covers_walk 1 1 2 1 (by decide) (by decide) (by decide) (by decide) _).mono ?_
      rintro e w' ⟨rfl, rfl⟩
      rw [cv0]
      go_wp2_with fail
      refine (part_walk a n d false ha hn hd _).mono ?_
      rintro e w2 ⟨rfl, q2⟩
      rw [P2.out]
      go_wp2_with fail
      refine (part_walk a n d true ha hn hd _).mono ?_
      rintro e w3 ⟨rfl, q3⟩
      rw [P1.out]
      have b := ((q1.trans q2).trans q3).below w.heap.size
      clear q1 q2 q3
      go_wp2_with fail
      refine (C1.out _).mono ?_
      rintro e w' ⟨rfl, rfl⟩
      go_wp2_with fail
      refine (C2.out _).mono ?_
      rintro e w' ⟨rfl, rfl⟩
      go_wp2
      go_ret
      exact ⟨rfl, b⟩
    · have P1 := PN true hf
      clear t1 t2 t3 t4 PN
      by_cases hf0 : partN a n d false < 18446744073709551616
      all_goals
        first | have P2 := PV false hf0 | have P2 := hid (partV_no (a := a) (n := n) (up := false) h0 hf0)
        clear PV
        generalize partN a n d false = x at *
        generalize partN a n d true = y at *
        go_enter Try.func9, Try.ntmps9
        go_wp2_with fail
        refine (partfn_walk _).mono ?_
        rintro e w1 ⟨rfl, q1⟩
        go_wp2_with fail
        refine (covers_walk 1 1 2 1 (by decide) (by decide) (by decide) (by decide) _).mono ?_
        rintro e w' ⟨rfl, rfl⟩
        rw [cv0]
        go_wp2_with fail
        refine (part_walk a n d false ha hn hd _).mono ?_
        rintro e w2 ⟨rfl, q2⟩
        rw [P2.out]
        go_wp2_with fail
        refine (part_walk a n d true ha hn hd _).mono ?_
        rintro e w3 ⟨rfl, q3⟩
        rw [P1.out]
        have b := ((q1.trans q2).trans q3).below w.heap.size
        clear q1 q2 q3
        go_wp2
        go_ret
        exact ⟨rfl, b⟩

set_option maxHeartbeats 2000000 in
theorem lawBack (a b : Nat) (ha : a < 18446744073709551616) (hb : b < 18446744073709551616) (w : World) :
    Calls Try.prog 10 #[.int .u64 a, .int .u64 b] w fun e w' => e = .returned (.bool true) ∧ Below w.heap.size w w' := by
  have SV : a + b < 18446744073709551616 → subV (a + b) b = .tuple #[.int .u64 (a : Int), .int .i64 0] := fun _ => by rw [subV_yes (by omega), Nat.add_sub_cancel]
  have hb0 : ¬ b = 0 → ((b : Int) == 0) = false := fun h => by simp; omega
  have N1 : ¬ b = 0 → partN (a * b) 1 b false = a := fun h0 => by simp [partN]; exact Nat.mul_div_cancel _ (by omega)
  have N2 : ¬ b = 0 → partN a b b true = a := fun h0 => by simp [partN]; exact Nat.mul_div_cancel _ (by omega)
  have V1 : ¬ b = 0 → partV (a * b) 1 b false = .tuple #[.int .u64 (a : Int), .int .i64 0] := fun h0 => by rw [partV_yes h0 (by rw [N1 h0]; exact ha), N1 h0]
  have V2 : ¬ b = 0 → partV a b b true = .tuple #[.int .u64 (a : Int), .int .i64 0] := fun h0 => by rw [partV_yes h0 (by rw [N2 h0]; exact ha), N2 h0]
  have MY := fun h => hid (mulV_yes (a := a) (b := b) h)
  have MN := fun h => hid (mulV_no (a := a) (b := b) h)
  have PW := fun h' wx => hid (part_walk (a * b) 1 b false h' (by decide) hb wx)
  have PW2 := fun wx => hid (part_walk a b b true ha hb hb wx)
  have mw := fun wx => hid (smul_walk a b ha hb wx)
  clear N1 N2
  by_cases h : a + b < 18446744073709551616
  all_goals by_cases h' : a * b < 18446744073709551616
  all_goals by_cases h0 : b = 0
  all_goals
    first
    | have hb1 := hb0 h0; have V1 := hid (V1 h0); have V2 := hid (V2 h0)
    | (have hb1 : ((b : Int) == 0) = true := by subst h0; rfl
       clear h0)
    clear hb0
    first
    | have MM := MY h'; have PW := fun wx => PW h' wx
    | have MM := MN h'
    clear MY MN
    go_enter Try.func10, Try.ntmps10
    go_wp2_with fail
    refine (partfn_walk _).mono ?_
    rintro e w1 ⟨rfl, q1⟩
    go_wp2_with fail
    refine (sadd_walk a b ha hb _).mono ?_
    rintro e w' ⟨rfl, rfl⟩
    first
    | (rw [addV_yes h]
       have ss := hid (ssub_walk (a + b) b h hb w1)
       rw [SV h] at ss
       generalize a + b = sm at *
       go_wp2_with fail
       refine (ss.out).mono ?_
       rintro e w' ⟨rfl, rfl⟩)
    | rw [addV_no h]
    go_wp2_with fail
    refine ((mw _).out).mono ?_
    rintro e w' ⟨rfl, rfl⟩
    rw [MM.out]
  all_goals clear MM mw SV
  all_goals generalize a * b = pr at *
  all_goals have b1 := q1.below w.heap.size
  all_goals
    first
    | (have hg : pr < 18446744073709551616 := h'
       have hg2 := V1.out
       clear hg hg2
       go_wp2_with fail
       refine ((PW _).out).mono ?_
       rintro e w2 ⟨rfl, q2⟩
       rw [V1.out]
       go_wp2_with fail
       refine ((PW2 _).out).mono ?_
       rintro e w3 ⟨rfl, q3⟩
       rw [V2.out]
       have b3 := ((q1.trans q2).trans q3).below w.heap.size
       clear q1 q2 q3
       go_wp2
       go_ret
       exact ⟨rfl, b3⟩)
    | (go_wp2
       go_ret
       exact ⟨rfl, b1⟩)
end Go.Proofs.Ytfiaallnnpcbmaa

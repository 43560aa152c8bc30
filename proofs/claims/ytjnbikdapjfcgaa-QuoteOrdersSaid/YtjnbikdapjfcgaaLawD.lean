/- The walks of the statements SumsParts, SumsTurns, SumsBack. -/
import Derived.Test.YtjnbikdapjfcgaaRef1f
import Derived.Test.YtjnbikdapjfcgaaPart
namespace Go.Proofs.Ytjnbikdapjfcgaa
open Go.RowKit

def RPartRes (w : World) (a n d : Nat) (up : Bool) (e : Ending) (w' : World) : Prop := e = .returned (partV a n d up) ∧ Below w.heap.size w w'
theorem Dig.one : Dig [1] 1 := ⟨rfl, fun d h => by simp at h; omega, fun ys d h => by
  have := congrArg List.getLast? h
  simp at this; omega⟩
theorem quot_lt {a n d : Nat} (ha : a < 18446744073709551616) (hn : n < 18446744073709551616) : a * n / d < 18446744073709551616 * 18446744073709551616 := Nat.lt_of_le_of_lt (Nat.div_le_self _ _) (mul_lt128 ha hn)

set_option maxHeartbeats 1000000 in
theorem rpart_walk (a n d : Nat) (up : Bool) (ha : a < 18446744073709551616) (hn : n < 18446744073709551616) (hd : d < 18446744073709551616) (w : World) :
    Calls Try.prog 17 #[.int .u64 a, .int .u64 n, .int .u64 d, .bool up] w (RPartRes w a n d up) := by
  by_cases h0 : d = 0
  · subst h0
    have F := hid (show RPartRes w a n 0 up (.returned (.tuple #[.int .u64 0, .int .i64 12])) w from ⟨rfl, Below.refl _ _⟩)
    go_enter Try.func17, Try.ntmps17
    go_wp2
    go_ret2
    exact F.out
  · have g0 : ((d : Int) == 0) = false := by simp; omega
    have hlt := mul_lt128 ha hn
    have hql := quot_lt (d := d) ha hn
    have PY := fun h => hid (partV_yes (a := a) (n := n) (up := up) h0 h)
    have PN := fun h => hid (partV_no (a := a) (n := n) (up := up) h0 h)
    have HPN := hid (show ∀ up, partN a n d up = a * n / d + (if up = true ∧ 0 < a * n % d then 1 else 0) from fun _ => rfl)
    by_cases hup : up = true ∧ 0 < a * n % d
    · obtain ⟨rfl, hR⟩ := hup
      have e : partN a n d true = a * n / d + 1 := by rw [HPN.out, if_pos ⟨rfl, hR⟩]
      rw [e] at PY PN
      clear HPN e
      have hR' := decide_eq_true hR
      by_cases hf : a * n / d + 1 < 18446744073709551616
      all_goals
        go_enter Try.func17, Try.ntmps17
        go_wp2_with fail
        refine (of_walk a ha _).mono ?_
        rintro e w1 ⟨v1, x1, rfl, d1, ⟨a1, c1, rfl, s1⟩, b1⟩
        go_wp2_with fail
        refine (of_walk n hn _).mono ?_
        rintro e w2 ⟨v2, x2, rfl, d2, ⟨a2, c2, rfl, s2⟩, b2⟩
        go_wp2_with fail
        have l1 := d1.len8 ha
        have l2 := d2.len8 hn
        refine (mul_walk a1 a2 _ _ _ _ a n x1 x2 (by omega) (by omega) _ (s1.below b2) d1 s2 d2).mono ?_
        rintro e w3 ⟨v3, x3, rfl, d3, ⟨a3, c3, rfl, s3⟩, b3⟩
        have b123 := bstep (bstep b1 b2) b3
        have l3 := d3.len16 hlt
        clear b1 b2 b3 l1 l2 d1 d2 s1 s2
        go_wp2_with fail
        refine (of_walk d hd _).mono ?_
        rintro e w4 ⟨v4, x4, rfl, d4, ⟨a4, c4, rfl, s4⟩, b4⟩
        have l4 := d4.len8 hd
        go_wp2_with fail
        refine (div_walk a3 a4 _ _ _ _ (a * n) d x3 x4 (by omega) (by omega) (by omega) _ (s3.below b4) d3 s4 d4).mono ?_
        rintro e w5 ⟨v5, x5, rfl, d5, ⟨a5, c5, rfl, s5⟩, b5⟩
        rw [hR']
        have l5 := d5.len16 hql
        have b12345 := bstep (bstep b123 b4) b5
        clear b123 b4 b5 l3 l4 d3 d4 s3 s4 hR' hR hql hlt
        generalize a * n / d = Q at *
        have S1 := hid (sl_lit .i64 w5 #[.int .i64 1] 3 [1] rfl rfl (by decide))
        have bb := (Below.refl w5.heap.size w5).alloc (Nat.le_refl _) (.cells #[.int .i64 1] 3)
        go_wp2_with fail
        refine (add_walk a5 _ _ _ _ _ Q 1 x5 [1] (by omega) (by simp) _ (s5.below bb) d5 S1.out Dig.one).mono ?_
        rintro e w6 ⟨v6, x6, rfl, d6, ⟨a6, c6, rfl, s6⟩, b6⟩
        have b6' := bstep b12345 (bb.trans (b6.mono bb.size))
        have l6 : x6.length ≤ 18 := d6.len_le (by have := d5.lt; have h2 : 256 ^ x5.length ≤ 256 ^ 16 := pow256_le l5; omega)
        clear bb S1 b6 b12345 s5 d5 l5
        go_wp2_with fail
        refine (num_walk a6 _ _ (Q + 1) x6 _ s6 d6 (by omega)).mono ?_
        rintro e w7 ⟨rfl, rfl⟩
      · rw [if_pos hf, decide_eq_true hf]
        have F := hid (show RPartRes w a n d true (.returned (.tuple #[.int .u64 ((Q + 1 : Nat) : Int), .int .i64 0])) w6 from ⟨by rw [(PY hf).out], b6'⟩)
        clear PY PN
        generalize Q + 1 = Q1 at *
        go_wp2
        go_ret2
        exact F.out
      · rw [if_neg hf, decide_eq_false hf]
        have F := hid (show RPartRes w a n d true (.returned (.tuple #[.int .u64 0, .int .i64 10])) w6 from ⟨by rw [(PN hf).out], b6'⟩)
        clear PY PN
        go_wp2
        go_ret2
        exact F.out
    · have e : partN a n d up = a * n / d := by rw [HPN.out, if_neg hup, Nat.add_zero]
      rw [e] at PY PN
      clear HPN e
      have hR' : up = true → decide (0 < a * n % d) = false := fun hu => by rw [decide_eq_false_iff_not]; exact fun h => hup ⟨hu, h⟩
      clear hup
      generalize hbb : decide (0 < a * n % d) = bb at *
      have HBB := hid hbb
      clear hbb
      by_cases hf : a * n / d < 18446744073709551616
      all_goals cases up
      all_goals try (have hR' := hR' rfl; subst hR')
      all_goals
        go_enter Try.func17, Try.ntmps17
        go_wp2_with fail
        refine (of_walk a ha _).mono ?_
        rintro e w1 ⟨v1, x1, rfl, d1, ⟨a1, c1, rfl, s1⟩, b1⟩
        go_wp2_with fail
        refine (of_walk n hn _).mono ?_
        rintro e w2 ⟨v2, x2, rfl, d2, ⟨a2, c2, rfl, s2⟩, b2⟩
        go_wp2_with fail
        have l1 := d1.len8 ha
        have l2 := d2.len8 hn
        refine (mul_walk a1 a2 _ _ _ _ a n x1 x2 (by omega) (by omega) _ (s1.below b2) d1 s2 d2).mono ?_
        rintro e w3 ⟨v3, x3, rfl, d3, ⟨a3, c3, rfl, s3⟩, b3⟩
        have b123 := bstep (bstep b1 b2) b3
        have l3 := d3.len16 hlt
        clear b1 b2 b3 l1 l2 d1 d2 s1 s2
        go_wp2_with fail
        refine (of_walk d hd _).mono ?_
        rintro e w4 ⟨v4, x4, rfl, d4, ⟨a4, c4, rfl, s4⟩, b4⟩
        have l4 := d4.len8 hd
        go_wp2_with fail
        refine (div_walk a3 a4 _ _ _ _ (a * n) d x3 x4 (by omega) (by omega) (by omega) _ (s3.below b4) d3 s4 d4).mono ?_
        rintro e w5 ⟨v5, x5, rfl, d5, ⟨a5, c5, rfl, s5⟩, b5⟩
        rw [HBB.out]
        have l5 := d5.len16 hql
        have b12345 := bstep (bstep b123 b4) b5
        clear b123 b4 b5 l3 l4 d3 d4 s3 s4 hR' hql hlt HBB
        generalize a * n / d = Q at *
        go_wp2_with fail
        refine (num_walk a5 _ _ Q x5 _ s5 d5 (by omega)).mono ?_
        rintro e w7 ⟨rfl, rfl⟩
      all_goals
        first
        | (rw [if_pos hf, decide_eq_true hf]
           have F := hid (show RPartRes w a n d _ (.returned (.tuple #[.int .u64 ((Q : Nat) : Int), .int .i64 0])) w5 from ⟨by rw [(PY hf).out], b12345⟩)
           clear PY PN
           go_wp2
           go_ret2
           exact F.out)
        | (rw [if_neg hf, decide_eq_false hf]
           have F := hid (show RPartRes w a n d _ (.returned (.tuple #[.int .u64 0, .int .i64 10])) w5 from ⟨by rw [(PN hf).out], b12345⟩)
           clear PY PN
           go_wp2
           go_ret2
           exact F.out)
end Go.Proofs.Ytjnbikdapjfcgaa

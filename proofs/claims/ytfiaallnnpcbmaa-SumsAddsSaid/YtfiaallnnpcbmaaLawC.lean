/- The walk of the statement SumsAdds. -/
import Derived.Test.YtfiaallnnpcbmaaLawB
namespace Go.Proofs.Ytfiaallnnpcbmaa
open Go.RowKit

theorem lawAdds (a b : Nat) (ha : a < 18446744073709551616) (hb : b < 18446744073709551616) (w : World) :
    Calls Try.prog 7 #[.int .u64 a, .int .u64 b] w fun e w' => e = .returned (.bool true) ∧ Below w.heap.size w w' := by
  by_cases h : a + b < 18446744073709551616
  all_goals by_cases h' : b ≤ a
  all_goals
    go_enter Try.func7, Try.ntmps7
    go_wp2_with fail
    refine (sadd_walk 3 4 (by decide) (by decide) _).mono ?_
    rintro e w' ⟨rfl, rfl⟩
    rw [addV_yes (by decide)]
    go_wp2_with fail
    refine (sadd_walk a b ha hb _).mono ?_
    rintro e w' ⟨rfl, rfl⟩
    first | rw [addV_yes h] | rw [addV_no h]
    go_wp2_with fail
    refine (of_walk a ha _).mono ?_
    rintro e w1 ⟨v1, x1, rfl, d1, ⟨a1, c1, rfl, s1⟩, b1⟩
    go_wp2_with fail
    refine (of_walk b hb _).mono ?_
    rintro e w2 ⟨v2, x2, rfl, d2, ⟨a2, c2, rfl, s2⟩, b2⟩
    go_wp2_with fail
    have l1 := d1.len8 ha
    have l2 := d2.len8 hb
    refine (add_walk a1 a2 _ _ _ _ a b x1 x2 (by omega) (by omega) _ (s1.below b2) d1 s2 d2).mono ?_
    rintro e w3 ⟨v3, x3, rfl, d3, ⟨a3, c3, rfl, s3⟩, b3⟩
    go_wp2_with fail
    have l3 := d3.len16 (by omega)
    refine (num_walk a3 _ _ (a + b) x3 _ s3 d3 (by omega)).mono ?_
    rintro e w4 ⟨rfl, rfl⟩
    first | rw [if_pos h, decide_eq_true h] | rw [if_neg h, decide_eq_false h]
    clear l1 l2 l3 s1 s2 s3 d1 d2 d3
    have hbb := bstep (bstep b1 b2) b3
    clear b1 b2 b3
    go_wp2_with fail
    refine (ssub_walk a b ha hb _).mono ?_
    rintro e w' ⟨rfl, rfl⟩
    first | rw [subV_yes h'] | rw [subV_no h']
    go_wp2_with fail
    refine (of_walk a ha _).mono ?_
    rintro e w1 ⟨v1, x1, rfl, d1, ⟨a1, c1, rfl, s1⟩, b1⟩
    go_wp2_with fail
    refine (of_walk b hb _).mono ?_
    rintro e w2 ⟨v2, x2, rfl, d2, ⟨a2, c2, rfl, s2⟩, b2⟩
    go_wp2_with fail
    have l1 := d1.len8 ha
    have l2 := d2.len8 hb
    refine (cmp_walk a1 a2 _ _ _ _ a b x1 x2 (by omega) (by omega) _ (s1.below b2) d1 s2 d2).mono ?_
    rintro e w5 ⟨rfl, q5⟩
    have hcs : (cmpI a b < 0) ↔ a < b := by unfold cmpI; split <;> (try split) <;> constructor <;> intro <;> omega
    generalize cmpI a b = cc at *
    have hbb2 := bstep (bstep (bstep hbb b1) b2) (q5.below _)
    clear l1 l2 s1 s2 d1 d2 q5
  · have hcn : ¬ cc < 0 := by omega
    clear hcs
    go_wp2_with fail
    refine (of_walk a ha _).mono ?_
    rintro e w6 ⟨v1, x1, rfl, d1, ⟨a1, c1, rfl, s1⟩, b1⟩
    go_wp2_with fail
    refine (of_walk b hb _).mono ?_
    rintro e w7 ⟨v2, x2, rfl, d2, ⟨a2, c2, rfl, s2⟩, b2⟩
    go_wp2_with fail
    have l1 := d1.len8 ha
    have l2 := d2.len8 hb
    refine (sub_walk a1 a2 _ _ _ _ a b x1 x2 (by omega) (by omega) _ (s1.below b2) d1 s2 d2 h').mono ?_
    rintro e w8 ⟨v3, x3, rfl, d3, ⟨a3, c3, rfl, s3⟩, b3⟩
    go_wp2_with fail
    have l3 := d3.len8 (by omega)
    refine (num_walk a3 _ _ (a - b) x3 _ s3 d3 (by omega)).mono ?_
    rintro e w9 ⟨rfl, rfl⟩
    rw [if_pos (by omega), decide_eq_true (by omega)]
    generalize a - b = dd at *
    go_wp2
    go_ret
    exact ⟨rfl, bstep (bstep (bstep hbb2 b1) b2) b3⟩
  · have hcn : cc < 0 := by omega
    clear hcs
    go_wp2
    go_ret
    exact ⟨rfl, hbb2⟩
  · have hcn : ¬ cc < 0 := by omega
    clear hcs
    go_wp2_with fail
    refine (of_walk a ha _).mono ?_
    rintro e w6 ⟨v1, x1, rfl, d1, ⟨a1, c1, rfl, s1⟩, b1⟩
    go_wp2_with fail
    refine (of_walk b hb _).mono ?_
    rintro e w7 ⟨v2, x2, rfl, d2, ⟨a2, c2, rfl, s2⟩, b2⟩
    go_wp2_with fail
    have l1 := d1.len8 ha
    have l2 := d2.len8 hb
    refine (sub_walk a1 a2 _ _ _ _ a b x1 x2 (by omega) (by omega) _ (s1.below b2) d1 s2 d2 h').mono ?_
    rintro e w8 ⟨v3, x3, rfl, d3, ⟨a3, c3, rfl, s3⟩, b3⟩
    go_wp2_with fail
    have l3 := d3.len8 (by omega)
    refine (num_walk a3 _ _ (a - b) x3 _ s3 d3 (by omega)).mono ?_
    rintro e w9 ⟨rfl, rfl⟩
    rw [if_pos (by omega), decide_eq_true (by omega)]
    generalize a - b = dd at *
    go_wp2
    go_ret
    exact ⟨rfl, bstep (bstep (bstep hbb2 b1) b2) b3⟩
  · have hcn : cc < 0 := by omega
    clear hcs
    go_wp2
    go_ret
    exact ⟨rfl, hbb2⟩
end Go.Proofs.Ytfiaallnnpcbmaa

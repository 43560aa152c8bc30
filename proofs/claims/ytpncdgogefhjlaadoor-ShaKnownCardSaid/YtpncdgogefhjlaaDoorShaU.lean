/- The walk of the statement ShaSums. -/
import Derived.Test.YtpncdgogefhjlaaDoorShaL
import Derived.Test.YtpncdgogefhjlaaDoorRsum
namespace Go.Proofs.YtpncdgogefhjlaaDoor
open Go.RowKit

theorem cellNewU (Y : World) (v : Value) (T : TypeId) : (Y.alloc (.cells #[v] T)).cell? ⟨Y.heap.size, 0, none⟩ = some v := by rw [cell_of_row _ _ 0 _ _ (0, 0) (heap_alloc_new Y _)]; rfl
theorem rsum1_walk (G : Nat) (a : Option Addr) (n c : Nat) (xs : List Nat) (w : World) (hc : w.cell? ⟨G, 0, none⟩ = some (.slice a n c)) (h : Sl .u8 w a n c xs) (hx : ∀ d ∈ xs, d < 256) (hn : n ≤ 1048576) :
    Calls Tryd.prog 12 #[tabV, .slice (some ⟨G, 0, none⟩) 1 1] w (SumRes xs w) := by
  have P := parts1 hc h hx (by omega)
  have hl := h.len
  have := rsum_walk (some ⟨G, 0, none⟩) 1 1 _ w P (by simp [flat]; omega)
  simpa [flat] using this
set_option maxRecDepth 100000 in
set_option maxHeartbeats 4000000 in
theorem lawSums (a : Option Addr) (n cap : Nat) (bs : List Nat) (hbs : ∀ d ∈ bs, d < 256) (_hz : n * 1 ≤ 140737488351232) (w : World) (h : Sl .u8 w a n cap bs) (ht : Tabs w) :
    Calls Tryd.prog 3 #[.slice a n cap] w fun e w' => e = .returned (.bool true) ∧ Below w.heap.size w w' := by
  have HL := hid h.len
  have HI := hid h
  have HX := hid hbs
  have HT := hid ht
  clear h hbs ht
  go_enter Tryd.func3, Tryd.ntmps3
  go_wp2_with fail
  refine (head_walk _ HT.out).mono ?_
  rintro e w1 ⟨rfl, b1⟩
  by_cases hn : n ≤ 2000
  · have t1 : decide ((n : Int) > 2000) = false := by rw [decide_eq_false_iff_not]; omega
    have HB1 := hid b1
    clear b1
    go_wp2_with fail
    clear t1
    refine (copy_walk a n cap bs (by omega) _ (HI.out.below HB1.out)).mono ?_
    rintro e w2 ⟨v, rfl, _, own, b2⟩
    have HB2 := hid (bstep HB1.out b2)
    obtain ⟨a2, c2, rfl, s2⟩ := SlV.of_owns own
    rw [HL.out] at s2 ⊢
    have S2 := hid s2
    clear own b2 s2
    have bN := hid ((Below.refl w2.heap.size w2).alloc (Nat.le_refl _) (.cells #[.slice a2 n c2] 22))
    have HBN := hid (HB2.out.trans (bN.out.mono HB2.out.size))
    go_wp2_with fail
    refine (sum1_walk _ a2 n c2 bs _ (cellNewU _ _ _) (S2.out.below bN.out) HX.out (by omega) (HT.out.below HBN.out)).mono ?_
    rintro e w3 ⟨rfl, b3⟩
    have HB3 := hid (HBN.out.trans (b3.mono HBN.out.size))
    have S3 := hid ((S2.out.below bN.out).below b3)
    clear b3
    go_wp2_with fail
    refine (make_walk _).mono ?_
    rintro e w4 ⟨rfl, b4⟩
    have HB4 := hid (HB3.out.trans (b4.mono HB3.out.size))
    have S4 := hid (S3.out.below b4)
    clear b4
    have bM := hid ((Below.refl w4.heap.size w4).alloc (Nat.le_refl _) (.cells #[.slice a n cap] 22))
    have HBM := hid (HB4.out.trans (bM.out.mono HB4.out.size))
    have r1 := guard_hv (sha bs) (sha bs)
    have r2 : ∀ w, (binOp .eql 26 (hv (sha bs)) (hv (sha bs))).run Tryd.prog w = .ok (.bool true) w := fun w => by rw [eql_hv (sha_len _) (sha_len _) (sha_lt _) (sha_lt _), decide_eq_true rfl]
    go_wp2_with fail
    refine (rsum1_walk _ a n cap bs _ (cellNewU _ _ _) (HI.out.below HBM.out) HX.out (by omega)).mono ?_
    rintro e w5 ⟨rfl, b5⟩
    have HB5 := hid (HBM.out.trans (b5.mono HBM.out.size))
    have S5 := hid ((S4.out.below bM.out).below b5)
    clear b5
    go_wp2_with fail
    refine (same_self _ _ _ _ _ _ bs HX.out _ S5.out (HI.out.below HB5.out)).mono ?_
    rintro e w6 ⟨rfl, rfl⟩
    go_wp2
    go_ret
    exact ⟨rfl, HB5.out⟩
  · have t1 : decide ((n : Int) > 2000) = true := by rw [decide_eq_true_eq]; omega
    go_wp2
    go_ret
    exact ⟨rfl, b1⟩
end Go.Proofs.YtpncdgogefhjlaaDoor

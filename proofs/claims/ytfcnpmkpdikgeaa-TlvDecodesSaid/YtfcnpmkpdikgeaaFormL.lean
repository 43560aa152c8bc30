/- The walk of the statement TlvForm. -/
import Derived.Test.YtfcnpmkpdikgeaaForm
namespace Go.Proofs.Ytfcnpmkpdikgeaa
open Go.RowKit

theorem decS_bad {bs : List Nat} (h : (decS bs).2 ≠ 0) : (decS bs).1 = [] := by
  have := dec_init bs
  unfold comb at this
  rw [if_pos h] at this
  rw [this]
theorem decS_enc {bs : List Nat} (hx : ∀ d ∈ bs, d < 256) (h : (decS bs).2 = 0) : encE (decS bs).1 = 0 ∧ encAll (decS bs).1 = bs := by
  obtain ⟨h1, h2, h3⟩ := dec_enc (bs.length + 1) none 0 bs (Nat.lt_succ_self _) hx h
  refine ⟨?_, h2⟩
  have h3' := h3 (by omega)
  unfold encE
  rw [if_neg (by show ¬ 256 < (decGo (bs.length + 1) none 0 bs).1.length; omega)]
  exact h1
set_option maxHeartbeats 1000000 in
theorem lawForm (a : Option Addr) (n cap : Nat) (bs : List Nat) (hbs : ∀ d ∈ bs, d < 256) (hz : n * 1 ≤ 140737488351232) (w : World) (h : Sl .u8 w a n cap bs) :
    Calls Try.prog 9 #[.slice a n cap] w fun e w' => e = .returned (.bool true) ∧ Below w.heap.size w w' := by
  have C1 := fun wx hw => hid (dec_walk a n cap bs hbs (by omega) wx hw)
  have HL := hid h.len
  have HI := hid h
  have hbad := @decS_bad bs
  have hgood := decS_enc hbs
  generalize hD : decS bs = D at *
  have HDD := hid hD
  clear hD h hz
  obtain ⟨rs, er⟩ := D
  simp only at hbad hgood
  go_enter Try.func9, Try.ntmps9
  go_wp2_with fail
  refine (encodefn_walk _).mono ?_
  rintro e w1 ⟨rfl, b1⟩
  by_cases hn : n ≤ 5000
  · have t1 : decide ((n : Int) > 5000) = false := by rw [decide_eq_false_iff_not]; omega
    have S1 := hid (HI.out.below b1)
    go_wp2_with fail
    refine (C1 _ S1.out).out.mono ?_
    rintro e w2 ⟨v, ls, rfl, ⟨a2, c2, rfl, r2⟩, hls, hl256, b2⟩
    rw [HDD.out] at hls ⊢
    simp only at hls ⊢
    have B2 := bstep b1 b2
    have S2 := hid (S1.out.below b2)
    have HLS := hid hls
    have R2 := hid r2
    clear hls r2 b1 b2
    by_cases he : er = 0
    · subst he
      obtain ⟨g1, g2⟩ := hgood rfl
      have G1 := hid (show encE (ls.map LR.pr) = 0 by rw [HLS.out]; exact g1)
      have G2 := hid (show encAll (ls.map LR.pr) = bs by rw [HLS.out]; exact g2)
      clear g1 g2 hgood hbad
      go_wp2_with fail
      refine (enc_walk a2 ls.length c2 ls _ R2.out).mono ?_
      rintro e w3 ⟨v3, rfl, sv, b3⟩
      rw [G1.out] at sv ⊢
      rw [if_pos rfl, G2.out] at sv
      obtain ⟨a3, c3, rfl, s3⟩ := sv
      have S3 := S2.out.below b3
      have B3 := bstep B2 b3
      clear b3 B2
      go_wp2_with fail
      refine (same_self _ _ _ _ _ _ bs hbs _ S3 s3).mono ?_
      rintro e w4 ⟨rfl, rfl⟩
      go_wp2
      go_ret
      exact ⟨rfl, B3⟩
    · have hrs := hbad he
      have hl0 : ls = [] := by
        have := HLS.out
        rw [hrs] at this
        simpa using this
      subst hl0
      have te : ((er : Int) != 0) = true := by simp; omega
      clear hgood hbad hrs
      go_wp2
      go_ret
      exact ⟨rfl, B2⟩
  · have t1 : decide ((n : Int) > 5000) = true := by rw [decide_eq_true_eq]; omega
    go_wp2
    go_ret
    exact ⟨rfl, b1⟩
end Go.Proofs.Ytfcnpmkpdikgeaa

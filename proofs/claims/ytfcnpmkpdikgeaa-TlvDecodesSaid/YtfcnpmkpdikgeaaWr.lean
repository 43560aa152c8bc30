/- The walk of the statement TlvWrites. -/
import Derived.Test.YtfcnpmkpdikgeaaWrP
import Derived.Test.YtfcnpmkpdikgeaaOpenR
import Derived.Test.YtfcnpmkpdikgeaaEncR
namespace Go.Proofs.Ytfcnpmkpdikgeaa
open Go.RowKit

theorem recs_t {w : World} {a : Option Addr} {n cap : Nat} {rs : List LR} (h : Recs w a n cap rs) : (∀ r ∈ rs.map LR.pr, r.1 < 18446744073709551616) ∧ (∀ r ∈ rs.map LR.pr, ∀ d ∈ r.2, d < 256) := by
  constructor
  · intro r hr
    obtain ⟨l, hl, rfl⟩ := List.mem_map.1 hr
    exact (h.2.2 l hl).1
  · intro r hr
    obtain ⟨l, hl, rfl⟩ := List.mem_map.1 hr
    exact (h.2.2 l hl).2.2.1
theorem encE_lt {rs : List Pr} (h : ∀ r ∈ rs, ∀ d ∈ r.2, d < 256) : ∀ d ∈ (if encE rs = 0 then encAll rs else []), d < 256 := by
  split
  · exact encAll_lt h
  · simp
def mk0 (k : Nat) : List LR := (List.range k).map (fun i => LR.mk i none 0 [])
theorem mk0_succ (k : Nat) : mk0 (k + 1) = mk0 k ++ [LR.mk k none 0 []] := by simp [mk0, List.range_succ]
theorem mk0_len (k : Nat) : (mk0 k).length = k := by simp [mk0]
theorem mk0_good (w : World) (k : Nat) (hk : k ≤ 1000) : ∀ l ∈ mk0 k, l.good w := by
  intro l hl
  simp only [mk0, List.mem_map, List.mem_range] at hl
  obtain ⟨i, hi, rfl⟩ := hl
  exact ⟨show i < 18446744073709551616 by omega, Sl.nilS .u8 _ (Nat.zero_le _) (fun _ => rfl), by simp, by simp⟩
set_option maxRecDepth 100000 in
set_option maxHeartbeats 4000000 in
theorem lawWrites (a : Option Addr) (n cap : Nat) (rs : List LR) (many : Int) (w : World) (h : Recs w a n cap rs) :
    Calls Try.prog 7 #[.slice a n cap, .int .i64 many] w fun e w' => e = .returned (.bool true) ∧ Below w.heap.size w w' := by
  have HL := hid h.2.1
  have HI := hid h
  clear h
  go_enter Try.func7, Try.ntmps7
  go_wp2_with fail
  refine (encodefn_walk _).mono ?_
  rintro e w1 ⟨rfl, b1⟩
  by_cases hn : n ≤ 40
  · have t1 : decide ((n : Int) > 40) = false := by rw [decide_eq_false_iff_not]; omega
    have HB1 := hid b1
    clear b1
    go_wp2
    clear t1
    go_loopw [21] (fun i0 wr => ∃ k : Nat, k ≤ n ∧ i0 = .int .i64 k ∧ Below w.heap.size w wr) (fun i0 _ => n - (intOf i0).toNat)
    case atStart => exact ⟨0, by omega, rfl, HB1.out⟩
    case round =>
      obtain ⟨k, hk, rfl, hb⟩ := hrel
      have HB := hid hb
      by_cases hlt : k < n
      · obtain ⟨r, hr⟩ := get_some HL.out hlt
        obtain ⟨b, off, rfl, c0, c1, gd⟩ := (HI.out.below hb).cells hr
        have BW := hid (bstep hb ((Below.refl wr.heap.size wr).alloc (Nat.le_refl _) (.cells #[.int .u64 (r.t : Int), .slice r.a r.v.length r.c] 39)))
        clear hb gd hr
        by_cases hl : r.v.length ≤ 70000
        · have tl : decide ((r.v.length : Int) > 70000) = false := by rw [decide_eq_false_iff_not]; omega
          go_wp2
          go_roundw
          case rel => exact ⟨k + 1, by omega, by go_num, BW.out⟩
          case measure => simp [intOf]; omega
        · have tl : decide ((r.v.length : Int) > 70000) = true := by rw [decide_eq_true_eq]; omega
          go_wp2
          go_ret
          exact ⟨rfl, BW.out⟩
      · obtain rfl : k = n := by omega
        clear hb hlt hk
        have RR := hid (HI.out.below HB.out)
        by_cases hm : 250 < many ∧ many < 260 ∧ 0 < k
        · obtain ⟨q1, q2, q3⟩ := hm
          obtain ⟨mm, rfl⟩ : ∃ mm : Nat, many = (mm : Int) := ⟨many.toNat, by omega⟩
          have p1 : decide ((mm : Int) > 250) = true := decide_eq_true q1
          have p2 : decide ((mm : Int) < 260) = true := decide_eq_true q2
          have p3 : decide (0 < k) = true := decide_eq_true q3
          have hmm : mm < 260 := by omega
          have HB0 := HB
          clear RR q1 q2
          go_wp2
          clear p1 p2 p3
          generalize wr = W0 at *
          go_loopw [0, 7] (fun x0 j0 wr => ∃ (j : Nat) (v : Value), j ≤ mm ∧ v = x0 ∧ j0 = .int .i64 j ∧ wr.ownsRow W0.heap.size 39 2 v j ((mk0 j).flatMap LR.cells) ∧ Below W0.heap.size W0 wr) (fun _ j0 _ => mm - (intOf j0).toNat)
          case atStart => exact ⟨0, _, by omega, rfl, rfl, own_nil' _ _ _ _, Below.refl _ _⟩
          case round =>
            obtain ⟨j, v, hj, rfl, rfl, hown, hbw⟩ := hrel
            by_cases hjm : j < mm
            · have HO := hid hown
              have HBW := hid hbw
              have HN := hid (show (mk0 (j + 1)).flatMap LR.cells = (mk0 j).flatMap LR.cells ++ [.int .u64 (j : Int), .slice none 0 0] by rw [mk0_succ, List.flatMap_append]; simp [LR.cells])
              have hwr : IntKind.u64.wrap (j : Int) = (j : Int) := by
                simp [IntKind.wrap, IntKind.signed, IntKind.bits]; omega
              clear hown hbw
              go_wp2_with (at_builtin; refine wpList_push rfl _ _ 35 rfl tyRec W0.heap.size HO.out rfl rfl rfl rfl (by omega) (by decide) HBW.out.size ?_)
              intro v1 u1 own1 bb1 hs1 _
              have O1 := hid own1
              have B1 := HBW.out.trans bb1
              clear own1 bb1 hs1 HO
              go_wp2
              go_roundw
              case rel => exact ⟨j + 1, _, by omega, rfl, by go_num, by rw [HN.out]; exact O1.out, B1⟩
              case measure => simp [intOf]; omega
            · obtain rfl : j = mm := by omega
              obtain ⟨a2, c2, rfl, r2⟩ := Rd.of_owns hown
              have RR := hid (show Recs wr a2 j c2 (mk0 j) from ⟨r2, mk0_len j, mk0_good wr j (by omega)⟩)
              have HB := hid (bstep HB0.out hbw)
              clear hown hbw r2 HB0
              have EL := hid (encAll_lt (recs_t RR.out).2)
              have HLR := hid RR.out.2.1
              by_cases he : encE ((mk0 j).map LR.pr) = 0
              · have EZ' := hid (encE_zero (rs := (mk0 j).map LR.pr) he (recs_t RR.out).1)
                go_wp2_with fail
                refine (enc_walk a2 j c2 (mk0 j) _ RR.out).mono ?_
                rintro e w3 ⟨v3, rfl, sv3, b3⟩
                rw [if_pos he] at sv3
                rw [he]
                obtain ⟨a3, c3, rfl, s3⟩ := sv3
                have R3 := hid (RR.out.below b3)
                have B3 := bstep HB.out b3
                have S3 := hid s3
                clear s3 b3
                go_wp2_with fail
                refine (plain_walk a2 j c2 (mk0 j) (by omega) _ R3.out).mono ?_
                rintro e w4 ⟨v4, rfl, ⟨a4, c4, rfl, r4⟩, b4⟩
                have R4 := hid (R3.out.below b4)
                have S4 := hid (S3.out.below b4)
                have B4 := bstep B3 b4
                have P4 := hid r4
                clear r4 b4 B3
                go_wp2_with fail
                refine (renc_walk a4 _ c4 (mk0 j) _ P4.out).mono ?_
                rintro e w5 ⟨v5, rfl, sv5, b5⟩
                rw [if_pos he] at sv5
                rw [he]
                obtain ⟨a5, c5, rfl, s5⟩ := sv5
                have R5 := hid (R4.out.below b5)
                have S5 := hid (S4.out.below b5)
                have B5 := bstep B4 b5
                have S6 := hid s5
                clear s5 b5 B4
                generalize encAll ((mk0 j).map LR.pr) = bs at *
                go_wp2_with fail
                refine (same_self _ _ _ _ _ _ _ EL.out _ S5.out S6.out).mono ?_
                rintro e w6 ⟨rfl, rfl⟩
                go_wp2_with fail
                refine (dec_walk _ _ _ bs EL.out (by have := EZ'.out.2; omega) _ S5.out).mono ?_
                rintro e w7 ⟨v7, ls, rfl, ⟨a7, c7, rfl, r7⟩, hls, hl256, b7⟩
                rw [EZ'.out.1] at hls ⊢
                simp only at hls ⊢
                have R7 := hid (R5.out.below b7)
                have B7 := bstep B5 b7
                have P7 := hid r7
                have HLS := hid hls
                clear r7 hls b7 B5
                go_wp2_with fail
                refine (plain_walk a7 _ c7 ls (by omega) _ P7.out).mono ?_
                rintro e w8 ⟨v8, rfl, ⟨a8, c8, rfl, r8⟩, b8⟩
                have R8 := hid (R7.out.below b8)
                have B8 := bstep B7 b8
                have P8 := hid r8
                clear r8 b8 B7
                go_wp2_with fail
                refine (plain_walk a2 j c2 (mk0 j) (by omega) _ R8.out).mono ?_
                rintro e w9 ⟨v9, rfl, ⟨a9, c9, rfl, r9⟩, b9⟩
                have P9 := hid (P8.out.below b9)
                have Q9 := hid r9
                have B9 := bstep B8 b9
                clear r9 b9 B8
                go_wp2_with fail
                refine (sameall_walk a8 _ c8 ls a9 _ c9 (mk0 j) (by omega) _ P9.out Q9.out).mono ?_
                rintro e w10 ⟨rfl, q10⟩
                rw [decide_eq_true HLS.out]
                have B10 := bstep B9 (q10.below _)
                clear q10 B9
                go_wp2
                go_ret
                exact ⟨rfl, B10⟩
              · have te : (((encE ((mk0 j).map LR.pr) : Nat) : Int) != 0) = true := by simp; omega
                go_wp2_with fail
                refine (enc_walk a2 j c2 (mk0 j) _ RR.out).mono ?_
                rintro e w3 ⟨v3, rfl, sv3, b3⟩
                rw [if_neg he] at sv3
                skip
                obtain ⟨a3, c3, rfl, s3⟩ := sv3
                have R3 := hid (RR.out.below b3)
                have B3 := bstep HB.out b3
                have S3 := hid s3
                clear s3 b3
                go_wp2_with fail
                refine (plain_walk a2 j c2 (mk0 j) (by omega) _ R3.out).mono ?_
                rintro e w4 ⟨v4, rfl, ⟨a4, c4, rfl, r4⟩, b4⟩
                have R4 := hid (R3.out.below b4)
                have S4 := hid (S3.out.below b4)
                have B4 := bstep B3 b4
                have P4 := hid r4
                clear r4 b4 B3
                go_wp2_with fail
                refine (renc_walk a4 _ c4 (mk0 j) _ P4.out).mono ?_
                rintro e w5 ⟨v5, rfl, sv5, b5⟩
                rw [if_neg he] at sv5
                skip
                obtain ⟨a5, c5, rfl, s5⟩ := sv5
                have R5 := hid (R4.out.below b5)
                have S5 := hid (S4.out.below b5)
                have B5 := bstep B4 b5
                have S6 := hid s5
                clear s5 b5 B4
                go_wp2_with fail
                refine (same_self _ _ _ _ _ _ [] (by simp) _ S5.out S6.out).mono ?_
                rintro e w6 ⟨rfl, rfl⟩
                go_wp2
                go_ret
                exact ⟨rfl, B5⟩
        · have hm1 : (decide (many > 250) = false) ∨ (decide (many > 250) = true ∧ decide (many < 260) = false) ∨ (decide (many > 250) = true ∧ decide (many < 260) = true ∧ k = 0) := by
            by_cases q1 : many > 250
            · by_cases q2 : many < 260
              · exact .inr (.inr ⟨decide_eq_true q1, decide_eq_true q2, by omega⟩)
              · exact .inr (.inl ⟨decide_eq_true q1, decide_eq_false q2⟩)
            · exact .inl (decide_eq_false q1)
          clear hm
          rcases hm1 with q1 | ⟨q1, q2⟩ | ⟨q1, q2, rfl⟩
          · have EL := hid (encAll_lt (recs_t RR.out).2)
            have HLR := hid RR.out.2.1
            by_cases he : encE (rs.map LR.pr) = 0
            · have EZ' := hid (encE_zero (rs := rs.map LR.pr) he (recs_t RR.out).1)
              go_wp2_with fail
              refine (enc_walk a k cap rs _ RR.out).mono ?_
              rintro e w3 ⟨v3, rfl, sv3, b3⟩
              rw [if_pos he] at sv3
              rw [he]
              obtain ⟨a3, c3, rfl, s3⟩ := sv3
              have R3 := hid (RR.out.below b3)
              have B3 := bstep HB.out b3
              have S3 := hid s3
              clear s3 b3
              go_wp2_with fail
              refine (plain_walk a k cap rs (by omega) _ R3.out).mono ?_
              rintro e w4 ⟨v4, rfl, ⟨a4, c4, rfl, r4⟩, b4⟩
              have R4 := hid (R3.out.below b4)
              have S4 := hid (S3.out.below b4)
              have B4 := bstep B3 b4
              have P4 := hid r4
              clear r4 b4 B3
              go_wp2_with fail
              refine (renc_walk a4 _ c4 rs _ P4.out).mono ?_
              rintro e w5 ⟨v5, rfl, sv5, b5⟩
              rw [if_pos he] at sv5
              rw [he]
              obtain ⟨a5, c5, rfl, s5⟩ := sv5
              have R5 := hid (R4.out.below b5)
              have S5 := hid (S4.out.below b5)
              have B5 := bstep B4 b5
              have S6 := hid s5
              clear s5 b5 B4
              generalize encAll (rs.map LR.pr) = bs at *
              go_wp2_with fail
              refine (same_self _ _ _ _ _ _ _ EL.out _ S5.out S6.out).mono ?_
              rintro e w6 ⟨rfl, rfl⟩
              go_wp2_with fail
              refine (dec_walk _ _ _ bs EL.out (by have := EZ'.out.2; omega) _ S5.out).mono ?_
              rintro e w7 ⟨v7, ls, rfl, ⟨a7, c7, rfl, r7⟩, hls, hl256, b7⟩
              rw [EZ'.out.1] at hls ⊢
              simp only at hls ⊢
              have R7 := hid (R5.out.below b7)
              have B7 := bstep B5 b7
              have P7 := hid r7
              have HLS := hid hls
              clear r7 hls b7 B5
              go_wp2_with fail
              refine (plain_walk a7 _ c7 ls (by omega) _ P7.out).mono ?_
              rintro e w8 ⟨v8, rfl, ⟨a8, c8, rfl, r8⟩, b8⟩
              have R8 := hid (R7.out.below b8)
              have B8 := bstep B7 b8
              have P8 := hid r8
              clear r8 b8 B7
              go_wp2_with fail
              refine (plain_walk a k cap rs (by omega) _ R8.out).mono ?_
              rintro e w9 ⟨v9, rfl, ⟨a9, c9, rfl, r9⟩, b9⟩
              have P9 := hid (P8.out.below b9)
              have Q9 := hid r9
              have B9 := bstep B8 b9
              clear r9 b9 B8
              go_wp2_with fail
              refine (sameall_walk a8 _ c8 ls a9 _ c9 rs (by omega) _ P9.out Q9.out).mono ?_
              rintro e w10 ⟨rfl, q10⟩
              rw [decide_eq_true HLS.out]
              have B10 := bstep B9 (q10.below _)
              clear q10 B9
              go_wp2
              go_ret
              exact ⟨rfl, B10⟩
            · have te : (((encE (rs.map LR.pr) : Nat) : Int) != 0) = true := by simp; omega
              go_wp2_with fail
              refine (enc_walk a k cap rs _ RR.out).mono ?_
              rintro e w3 ⟨v3, rfl, sv3, b3⟩
              rw [if_neg he] at sv3
              skip
              obtain ⟨a3, c3, rfl, s3⟩ := sv3
              have R3 := hid (RR.out.below b3)
              have B3 := bstep HB.out b3
              have S3 := hid s3
              clear s3 b3
              go_wp2_with fail
              refine (plain_walk a k cap rs (by omega) _ R3.out).mono ?_
              rintro e w4 ⟨v4, rfl, ⟨a4, c4, rfl, r4⟩, b4⟩
              have R4 := hid (R3.out.below b4)
              have S4 := hid (S3.out.below b4)
              have B4 := bstep B3 b4
              have P4 := hid r4
              clear r4 b4 B3
              go_wp2_with fail
              refine (renc_walk a4 _ c4 rs _ P4.out).mono ?_
              rintro e w5 ⟨v5, rfl, sv5, b5⟩
              rw [if_neg he] at sv5
              skip
              obtain ⟨a5, c5, rfl, s5⟩ := sv5
              have R5 := hid (R4.out.below b5)
              have S5 := hid (S4.out.below b5)
              have B5 := bstep B4 b5
              have S6 := hid s5
              clear s5 b5 B4
              go_wp2_with fail
              refine (same_self _ _ _ _ _ _ [] (by simp) _ S5.out S6.out).mono ?_
              rintro e w6 ⟨rfl, rfl⟩
              go_wp2
              go_ret
              exact ⟨rfl, B5⟩
          · have EL := hid (encAll_lt (recs_t RR.out).2)
            have HLR := hid RR.out.2.1
            by_cases he : encE (rs.map LR.pr) = 0
            · have EZ' := hid (encE_zero (rs := rs.map LR.pr) he (recs_t RR.out).1)
              go_wp2_with fail
              refine (enc_walk a k cap rs _ RR.out).mono ?_
              rintro e w3 ⟨v3, rfl, sv3, b3⟩
              rw [if_pos he] at sv3
              rw [he]
              obtain ⟨a3, c3, rfl, s3⟩ := sv3
              have R3 := hid (RR.out.below b3)
              have B3 := bstep HB.out b3
              have S3 := hid s3
              clear s3 b3
              go_wp2_with fail
              refine (plain_walk a k cap rs (by omega) _ R3.out).mono ?_
              rintro e w4 ⟨v4, rfl, ⟨a4, c4, rfl, r4⟩, b4⟩
              have R4 := hid (R3.out.below b4)
              have S4 := hid (S3.out.below b4)
              have B4 := bstep B3 b4
              have P4 := hid r4
              clear r4 b4 B3
              go_wp2_with fail
              refine (renc_walk a4 _ c4 rs _ P4.out).mono ?_
              rintro e w5 ⟨v5, rfl, sv5, b5⟩
              rw [if_pos he] at sv5
              rw [he]
              obtain ⟨a5, c5, rfl, s5⟩ := sv5
              have R5 := hid (R4.out.below b5)
              have S5 := hid (S4.out.below b5)
              have B5 := bstep B4 b5
              have S6 := hid s5
              clear s5 b5 B4
              generalize encAll (rs.map LR.pr) = bs at *
              go_wp2_with fail
              refine (same_self _ _ _ _ _ _ _ EL.out _ S5.out S6.out).mono ?_
              rintro e w6 ⟨rfl, rfl⟩
              go_wp2_with fail
              refine (dec_walk _ _ _ bs EL.out (by have := EZ'.out.2; omega) _ S5.out).mono ?_
              rintro e w7 ⟨v7, ls, rfl, ⟨a7, c7, rfl, r7⟩, hls, hl256, b7⟩
              rw [EZ'.out.1] at hls ⊢
              simp only at hls ⊢
              have R7 := hid (R5.out.below b7)
              have B7 := bstep B5 b7
              have P7 := hid r7
              have HLS := hid hls
              clear r7 hls b7 B5
              go_wp2_with fail
              refine (plain_walk a7 _ c7 ls (by omega) _ P7.out).mono ?_
              rintro e w8 ⟨v8, rfl, ⟨a8, c8, rfl, r8⟩, b8⟩
              have R8 := hid (R7.out.below b8)
              have B8 := bstep B7 b8
              have P8 := hid r8
              clear r8 b8 B7
              go_wp2_with fail
              refine (plain_walk a k cap rs (by omega) _ R8.out).mono ?_
              rintro e w9 ⟨v9, rfl, ⟨a9, c9, rfl, r9⟩, b9⟩
              have P9 := hid (P8.out.below b9)
              have Q9 := hid r9
              have B9 := bstep B8 b9
              clear r9 b9 B8
              go_wp2_with fail
              refine (sameall_walk a8 _ c8 ls a9 _ c9 rs (by omega) _ P9.out Q9.out).mono ?_
              rintro e w10 ⟨rfl, q10⟩
              rw [decide_eq_true HLS.out]
              have B10 := bstep B9 (q10.below _)
              clear q10 B9
              go_wp2
              go_ret
              exact ⟨rfl, B10⟩
            · have te : (((encE (rs.map LR.pr) : Nat) : Int) != 0) = true := by simp; omega
              go_wp2_with fail
              refine (enc_walk a k cap rs _ RR.out).mono ?_
              rintro e w3 ⟨v3, rfl, sv3, b3⟩
              rw [if_neg he] at sv3
              skip
              obtain ⟨a3, c3, rfl, s3⟩ := sv3
              have R3 := hid (RR.out.below b3)
              have B3 := bstep HB.out b3
              have S3 := hid s3
              clear s3 b3
              go_wp2_with fail
              refine (plain_walk a k cap rs (by omega) _ R3.out).mono ?_
              rintro e w4 ⟨v4, rfl, ⟨a4, c4, rfl, r4⟩, b4⟩
              have R4 := hid (R3.out.below b4)
              have S4 := hid (S3.out.below b4)
              have B4 := bstep B3 b4
              have P4 := hid r4
              clear r4 b4 B3
              go_wp2_with fail
              refine (renc_walk a4 _ c4 rs _ P4.out).mono ?_
              rintro e w5 ⟨v5, rfl, sv5, b5⟩
              rw [if_neg he] at sv5
              skip
              obtain ⟨a5, c5, rfl, s5⟩ := sv5
              have R5 := hid (R4.out.below b5)
              have S5 := hid (S4.out.below b5)
              have B5 := bstep B4 b5
              have S6 := hid s5
              clear s5 b5 B4
              go_wp2_with fail
              refine (same_self _ _ _ _ _ _ [] (by simp) _ S5.out S6.out).mono ?_
              rintro e w6 ⟨rfl, rfl⟩
              go_wp2
              go_ret
              exact ⟨rfl, B5⟩
          · have EL := hid (encAll_lt (recs_t RR.out).2)
            have HLR := hid RR.out.2.1
            by_cases he : encE (rs.map LR.pr) = 0
            · have EZ' := hid (encE_zero (rs := rs.map LR.pr) he (recs_t RR.out).1)
              go_wp2_with fail
              refine (enc_walk a 0 cap rs _ RR.out).mono ?_
              rintro e w3 ⟨v3, rfl, sv3, b3⟩
              rw [if_pos he] at sv3
              rw [he]
              obtain ⟨a3, c3, rfl, s3⟩ := sv3
              have R3 := hid (RR.out.below b3)
              have B3 := bstep HB.out b3
              have S3 := hid s3
              clear s3 b3
              go_wp2_with fail
              refine (plain_walk a 0 cap rs (by omega) _ R3.out).mono ?_
              rintro e w4 ⟨v4, rfl, ⟨a4, c4, rfl, r4⟩, b4⟩
              have R4 := hid (R3.out.below b4)
              have S4 := hid (S3.out.below b4)
              have B4 := bstep B3 b4
              have P4 := hid r4
              clear r4 b4 B3
              go_wp2_with fail
              refine (renc_walk a4 _ c4 rs _ P4.out).mono ?_
              rintro e w5 ⟨v5, rfl, sv5, b5⟩
              rw [if_pos he] at sv5
              rw [he]
              obtain ⟨a5, c5, rfl, s5⟩ := sv5
              have R5 := hid (R4.out.below b5)
              have S5 := hid (S4.out.below b5)
              have B5 := bstep B4 b5
              have S6 := hid s5
              clear s5 b5 B4
              generalize encAll (rs.map LR.pr) = bs at *
              go_wp2_with fail
              refine (same_self _ _ _ _ _ _ _ EL.out _ S5.out S6.out).mono ?_
              rintro e w6 ⟨rfl, rfl⟩
              go_wp2_with fail
              refine (dec_walk _ _ _ bs EL.out (by have := EZ'.out.2; omega) _ S5.out).mono ?_
              rintro e w7 ⟨v7, ls, rfl, ⟨a7, c7, rfl, r7⟩, hls, hl256, b7⟩
              rw [EZ'.out.1] at hls ⊢
              simp only at hls ⊢
              have R7 := hid (R5.out.below b7)
              have B7 := bstep B5 b7
              have P7 := hid r7
              have HLS := hid hls
              clear r7 hls b7 B5
              go_wp2_with fail
              refine (plain_walk a7 _ c7 ls (by omega) _ P7.out).mono ?_
              rintro e w8 ⟨v8, rfl, ⟨a8, c8, rfl, r8⟩, b8⟩
              have R8 := hid (R7.out.below b8)
              have B8 := bstep B7 b8
              have P8 := hid r8
              clear r8 b8 B7
              go_wp2_with fail
              refine (plain_walk a 0 cap rs (by omega) _ R8.out).mono ?_
              rintro e w9 ⟨v9, rfl, ⟨a9, c9, rfl, r9⟩, b9⟩
              have P9 := hid (P8.out.below b9)
              have Q9 := hid r9
              have B9 := bstep B8 b9
              clear r9 b9 B8
              go_wp2_with fail
              refine (sameall_walk a8 _ c8 ls a9 _ c9 rs (by omega) _ P9.out Q9.out).mono ?_
              rintro e w10 ⟨rfl, q10⟩
              rw [decide_eq_true HLS.out]
              have B10 := bstep B9 (q10.below _)
              clear q10 B9
              go_wp2
              go_ret
              exact ⟨rfl, B10⟩
            · have te : (((encE (rs.map LR.pr) : Nat) : Int) != 0) = true := by simp; omega
              go_wp2_with fail
              refine (enc_walk a 0 cap rs _ RR.out).mono ?_
              rintro e w3 ⟨v3, rfl, sv3, b3⟩
              rw [if_neg he] at sv3
              skip
              obtain ⟨a3, c3, rfl, s3⟩ := sv3
              have R3 := hid (RR.out.below b3)
              have B3 := bstep HB.out b3
              have S3 := hid s3
              clear s3 b3
              go_wp2_with fail
              refine (plain_walk a 0 cap rs (by omega) _ R3.out).mono ?_
              rintro e w4 ⟨v4, rfl, ⟨a4, c4, rfl, r4⟩, b4⟩
              have R4 := hid (R3.out.below b4)
              have S4 := hid (S3.out.below b4)
              have B4 := bstep B3 b4
              have P4 := hid r4
              clear r4 b4 B3
              go_wp2_with fail
              refine (renc_walk a4 _ c4 rs _ P4.out).mono ?_
              rintro e w5 ⟨v5, rfl, sv5, b5⟩
              rw [if_neg he] at sv5
              skip
              obtain ⟨a5, c5, rfl, s5⟩ := sv5
              have R5 := hid (R4.out.below b5)
              have S5 := hid (S4.out.below b5)
              have B5 := bstep B4 b5
              have S6 := hid s5
              clear s5 b5 B4
              go_wp2_with fail
              refine (same_self _ _ _ _ _ _ [] (by simp) _ S5.out S6.out).mono ?_
              rintro e w6 ⟨rfl, rfl⟩
              go_wp2
              go_ret
              exact ⟨rfl, B5⟩
  · have t1 : decide ((n : Int) > 40) = true := by rw [decide_eq_true_eq]; omega
    go_wp2
    go_ret
    exact ⟨rfl, b1⟩
theorem lawWrites' (a : Option Addr) (l c : Nat) (rs : List LR) (many : Int) (_hm : (Lit.int .i64 many).wf = true) (w : World) (hl : rs.length = l) (h : SLo.good w 2 32 LR.cells (LR.good w) ⟨a, c, rs⟩) :
    Calls Try.prog 7 #[.slice a l c, .int .i64 many] w fun e w' => e = .returned (.bool true) ∧ Below w.heap.size w w' := by
  subst hl
  exact lawWrites a rs.length c rs many w (recs_of h)
end Go.Proofs.Ytfcnpmkpdikgeaa

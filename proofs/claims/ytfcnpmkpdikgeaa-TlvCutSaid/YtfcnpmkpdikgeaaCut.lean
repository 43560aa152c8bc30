/- The walk of the statement TlvCut. -/
import Derived.Test.YtfcnpmkpdikgeaaCutP
import Derived.Test.YtfcnpmkpdikgeaaWr
namespace Go.Proofs.Ytfcnpmkpdikgeaa
open Go.RowKit

theorem and65535 (n : Int) : bits .and .i64 n 65535 = n % 65536 := by
  have h127 : (BitVec.ofInt 64 65535).toNat = 2 ^ 16 - 1 := by decide
  have key : (BitVec.ofInt 64 n &&& BitVec.ofInt 64 65535).toNat = (n % ((2 ^ 64 : Nat) : Int)).toNat % 2 ^ 16 := by
    rw [BitVec.toNat_and, BitVec.toNat_ofInt, h127, Nat.and_two_pow_sub_one_eq_mod]
  show IntKind.i64.wrap ((BitVec.ofInt 64 n &&& BitVec.ofInt 64 65535).toNat : Nat) = n % 65536
  rw [key, IntKind.wrap_i64]
  omega
theorem flat_take {ls : List LR} {k : Nat} : ((ls.take k).flatMap LR.cells) = (ls.flatMap LR.cells).take (k * 2) := by
  induction ls generalizing k with
  | nil => simp
  | cons x r ih =>
    cases k with
    | zero => simp
    | succ k =>
      rw [List.take_succ_cons, List.flatMap_cons, List.flatMap_cons, ih, show (k + 1) * 2 = (x.cells).length + k * 2 by simp [LR.cells]; omega, List.take_length_add_append]
theorem Recs.take {w : World} {a : Option Addr} {n cap k : Nat} {ls : List LR} (h : Recs w a n cap ls) (hk : k ≤ n) : Recs w a k cap (ls.take k) := by
  obtain ⟨⟨q1, q2, q3, q4, b, off, ha, hc⟩, hl, hg⟩ := h
  refine ⟨⟨?_, by omega, q3, q4, b, off, fun h => ha (by omega), fun j u hu => hc j u ?_⟩, by simp; omega, fun l hl => hg l (List.mem_of_mem_take hl)⟩
  · rw [flat_take, List.length_take, q1]; omega
  · rw [flat_take, List.getElem?_take] at hu
    split at hu
    · exact hu
    · cases hu
set_option maxRecDepth 100000 in
set_option maxHeartbeats 4000000 in
theorem lawCut (a : Option Addr) (n cap : Nat) (rs : List LR) (at' : Int) (w : World) (h : Recs w a n cap rs) :
    Calls Try.prog 10 #[.slice a n cap, .int .i64 at'] w fun e w' => e = .returned (.bool true) ∧ Below w.heap.size w w' := by
  have HL := hid h.2.1
  have HI := hid h
  clear h
  obtain ⟨A, hA, hA'⟩ : ∃ A : Nat, bits .and .i64 at' 65535 = (A : Int) ∧ A < 65536 := ⟨(at' % 65536).toNat, by rw [and65535]; omega, by omega⟩
  go_enter Try.func10, Try.ntmps10
  go_wp2_with fail
  refine (encodefn_walk _).mono ?_
  rintro e w1 ⟨rfl, b1⟩
  by_cases hn : n ≤ 20
  · have t1 : decide ((n : Int) > 20) = false := by rw [decide_eq_false_iff_not]; omega
    have HB1 := hid b1
    clear b1
    go_wp2
    clear t1
    go_loopw [20] (fun i0 wr => ∃ k : Nat, k ≤ n ∧ i0 = .int .i64 k ∧ Below w.heap.size w wr) (fun i0 _ => n - (intOf i0).toNat)
    case atStart => exact ⟨0, by omega, rfl, HB1.out⟩
    case round =>
      obtain ⟨k, hk, rfl, hb⟩ := hrel
      have HB := hid hb
      by_cases hlt : k < n
      · obtain ⟨r, hr⟩ := get_some HL.out hlt
        obtain ⟨b, off, rfl, c0, c1, gd⟩ := (HI.out.below hb).cells hr
        have BW := hid (bstep hb ((Below.refl wr.heap.size wr).alloc (Nat.le_refl _) (.cells #[.int .u64 (r.t : Int), .slice r.a r.v.length r.c] 39)))
        clear hb gd hr
        by_cases hl : r.v.length ≤ 500
        · have tl : decide ((r.v.length : Int) > 500) = false := by rw [decide_eq_false_iff_not]; omega
          go_wp2
          go_roundw
          case rel => exact ⟨k + 1, by omega, by go_num, BW.out⟩
          case measure => simp [intOf]; omega
        · have tl : decide ((r.v.length : Int) > 500) = true := by rw [decide_eq_true_eq]; omega
          go_wp2
          go_ret
          exact ⟨rfl, BW.out⟩
      · obtain rfl : k = n := by omega
        clear hb hlt hk
        have RR := hid (HI.out.below HB.out)
        have RT := hid (recs_t RR.out).1
        have EL := hid (encAll_lt (recs_t RR.out).2)
        by_cases he : encE (rs.map LR.pr) = 0
        · have EZ := hid (encE_zero he RT.out).2
          have CUT := hid (fun a' (h : a' < (encAll (rs.map LR.pr)).length) => decS_cut he RT.out h)
          have TWO := hid (decS_twice he RT.out)
          go_wp2_with fail
          refine (enc_walk a k cap rs _ RR.out).mono ?_
          rintro e w3 ⟨v3, rfl, sv3, b3⟩
          rw [if_pos he] at sv3
          rw [he]
          obtain ⟨a3, c3, rfl, s3⟩ := sv3
          have R3 := hid (RR.out.below b3)
          have B3 := bstep HB.out b3
          have S3 := hid s3
          clear s3 b3 RR
          have HBS := hid (show encAll (rs.map LR.pr) = encAll (rs.map LR.pr) from rfl)
          generalize encAll (rs.map LR.pr) = bs at *
          by_cases hb0 : bs.length = 0
          · have tb : ((bs.length : Int) == 0) = true := beq_iff_eq.2 (by omega)
            go_wp2
            go_ret
            exact ⟨rfl, B3⟩
          · have tb : ((bs.length : Int) == 0) = false := beq_eq_false_iff_ne.2 (by omega)
            have hb1 : 1 ≤ bs.length := by omega
            obtain ⟨C, hC, hC'⟩ : ∃ C : Nat, (A : Int) % (bs.length : Int) = (C : Int) ∧ C < bs.length := ⟨A % bs.length, (Int.natCast_emod A bs.length).symm, Nat.mod_lt _ (by omega)⟩
            have S3t := hid (S3.out.take (m := C) (by omega))
            have E3t := hid (show ∀ d ∈ bs.take C, d < 256 from fun d hd => EL.out d (List.mem_of_mem_take hd))
            have TW := hid (TWO.out (by intro h; rw [h] at hb0; exact hb0 rfl))
            have CU := CUT.out C hC'
            have EB := EZ.out
            clear TWO CUT
            obtain ⟨bk, off, ha3, _⟩ := S3.out.opened
            obtain rfl := ha3 hb1
            have D1 := hid (fun wx hw => dec_walk (some ⟨bk, off, none⟩) C c3 (bs.take C) E3t.out (by omega) wx hw)
            have hc3 : bs.length ≤ c3 := S3.out.2.1
            have hC2 : C ≤ bs.length := by omega
            rcases CU with CU | ⟨m, hm, CU⟩
            · have CU' := hid CU
              clear CU HBS
              go_wp2_with fail
              refine (D1.out _ S3t.out).mono ?_
              rintro e w4 ⟨v4, ls, rfl, ⟨a4, c4, rfl, r4⟩, hls, hl256, b4⟩
              rw [CU'.out]
              have S4 := S3.out.below b4
              have B4 := bstep B3 b4
              clear b4 B3 hls r4 R3 S3 S3t
              go_wp2_with fail
              refine (copy_walk _ _ _ bs (by omega) _ S4).mono ?_
              rintro e w5 ⟨v5, rfl, hne5, own5, b5⟩
              have S5 := hid (S4.below b5)
              have B5 := bstep B4 b5
              have HZ := hid b5.size
              have O5 := hid own5
              have HS4 := hid B4.size
              clear own5 b5 B4 hne5 S4
              go_wp2_with (at_builtin; refine wpList_cat rfl _ _ 25 rfl tyBs _ O5.out rfl rfl S5.out (nums_oneCell _ _) ?c1 ?c2 ?c3 ?_)
              case c1 => omega
              case c2 => unfold maxLen; omega
              case c3 => exact HZ.out
              intro v6 w6 own6 b6 hs6 hne6
              rw [nums_append] at own6
              obtain ⟨a6, c6, rfl, s6⟩ := Rd.of_owns own6
              have B6 := hid (B5.trans (b6.mono HS4.out))
              have E6 := hid (show ∀ d ∈ bs ++ bs, d < 256 from fun d hd => by rcases List.mem_append.1 hd with h | h <;> exact EL.out d h)
              have S6 := hid (show Sl .u8 w6 a6 (bs.length + bs.length) c6 (bs ++ bs) from s6)
              clear own6 b6 hs6 hne6 s6 B5 S5 O5
              go_wp2_with fail
              refine (dec_walk _ _ _ _ E6.out (by omega) _ S6.out).mono ?_
              rintro e w7 ⟨v7, ls7, rfl, hr7, hls7, hl7, b7⟩
              rw [TW.out]
              have B7 := bstep B6.out b7
              clear hr7 hls7 hl7 b7 B6
              go_wp2
              go_ret
              exact ⟨rfl, B7⟩
            · have CU' := hid CU
              have hmk : m < k := by have := HL.out; simp at hm; omega
              clear CU HBS hm
              go_wp2_with fail
              refine (D1.out _ S3t.out).mono ?_
              rintro e w4 ⟨v4, ls, rfl, ⟨a4, c4, rfl, r4⟩, hls, hl256, b4⟩
              rw [CU'.out] at hls ⊢
              simp only at hls ⊢
              have hlm : ls.length = m := by
                have := congrArg List.length hls
                have h2 := HL.out
                simp at this
                omega
              subst hlm
              have S4 := S3.out.below b4
              obtain ⟨ts, hts⟩ : ∃ ts, ts = rs.take ls.length := ⟨_, rfl⟩
              have R4 := (R3.out.below b4).take (k := ls.length) (by omega)
              obtain ⟨⟨_, hkc, _, _, bl, ol, hal, _⟩, _, _⟩ := R3.out
              obtain rfl := hal (by omega)
              rw [← hts] at R4
              have B4 := bstep B3 b4
              have HLS := hid (show decide (ls.map LR.pr = ts.map LR.pr) = true by rw [decide_eq_true_eq, hts, hls, List.map_take])
              have htl := hid (show ts.length = ls.length by rw [hts, List.length_take, HL.out]; omega)
              have tm : decide (ls.length ≥ k) = false := by rw [decide_eq_false_iff_not]; omega
              have hls2 : ls.length ≤ 1000000 := by omega
              have hlc : ls.length ≤ cap := by omega
              have i1 : (0 : Int) ≤ (ls.length : Int) := by omega
              have i2 : (ls.length : Int) ≤ (cap : Int) := by omega
              clear b4 B3 hls hts R3 S3 S3t
              go_wp2_with fail
              go_region_held3 (fun _ => True) (exact trivial)
                (first
                  | (go_at_call 23; (with_reducible refine (plain_walk a4 ls.length c4 ls hls2 _ ?_).mono ?_); (first | exact r4 | exact r4.below ((Below.refl _ _).drew)); rintro e wA ⟨vA, rfl, ⟨aA, cA, rfl, rA⟩, bA⟩; (first | (replace R4 := R4.below bA) | (replace R4 := (R4.below (Below.refl _ _).drew).below bA) | skip); (first | (replace S4 := S4.below bA) | (replace S4 := (S4.below (Below.refl _ _).drew).below bA)); (first | (replace B4 := bstep B4 bA) | (replace B4 := bstep B4.drew bA)); (try replace rB := rB.below bA); clear bA)
                  | (go_at_call 23; (with_reducible refine (plain_walk (some ⟨bl, ol, none⟩) ls.length cap ts hls2 _ ?_).mono ?_); (first | exact R4 | exact R4.below ((Below.refl _ _).drew)); rintro e wB ⟨vB, rfl, ⟨aB, cB, rfl, rB⟩, bB⟩; (first | (replace r4 := r4.below bB) | (replace r4 := (r4.below (Below.refl _ _).drew).below bB) | skip); (first | (replace S4 := S4.below bB) | (replace S4 := (S4.below (Below.refl _ _).drew).below bB)); (first | (replace B4 := bstep B4 bB) | (replace B4 := bstep B4.drew bB)); (try replace rA := rA.below bB); clear bB)
                  | (go_at_call 25; (with_reducible refine (sameall_walk aA _ cA ls aB _ cB ts hls2 _ rA rB).mono ?_); rintro e wD ⟨rfl, qD⟩; rw [HLS.out]; (replace S4 := S4.below (qD.below _)); (replace B4 := bstep B4 (qD.below _)); clear qD))
              all_goals clear rA rB R4 r4
              all_goals
                go_wp2_with fail
                refine (copy_walk _ _ _ bs (by omega) _ S4).mono ?_
                rintro e w5 ⟨v5, rfl, hne5, own5, b5⟩
                have S5 := hid (S4.below b5)
                have B5 := bstep B4 b5
                have HZ := hid b5.size
                have O5 := hid own5
                have HS4 := hid B4.size
                clear own5 b5 B4 hne5 S4
                go_wp2_with (at_builtin; refine wpList_cat rfl _ _ 25 rfl tyBs _ O5.out rfl rfl S5.out (nums_oneCell _ _) ?c1 ?c2 ?c3 ?_)
                case c1 => omega
                case c2 => unfold maxLen; omega
                case c3 => exact HZ.out
                intro v6 w6 own6 b6 hs6 hne6
                rw [nums_append] at own6
                obtain ⟨a6, c6, rfl, s6⟩ := Rd.of_owns own6
                have B6 := hid (B5.trans (b6.mono HS4.out))
                have E6 := hid (show ∀ d ∈ bs ++ bs, d < 256 from fun d hd => by rcases List.mem_append.1 hd with h | h <;> exact EL.out d h)
                have S6 := hid (show Sl .u8 w6 a6 (bs.length + bs.length) c6 (bs ++ bs) from s6)
                clear own6 b6 hs6 hne6 s6 B5 S5 O5
                go_wp2_with fail
                refine (dec_walk _ _ _ _ E6.out (by omega) _ S6.out).mono ?_
                rintro e w7 ⟨v7, ls7, rfl, hr7, hls7, hl7, b7⟩
                rw [TW.out]
                have B7 := bstep B6.out b7
                clear hr7 hls7 hl7 b7 B6
                go_wp2
                go_ret
                exact ⟨rfl, B7⟩
        · have te : (((encE (rs.map LR.pr) : Nat) : Int) != 0) = true := by simp; omega
          go_wp2_with fail
          refine (enc_walk a k cap rs _ RR.out).mono ?_
          rintro e w3 ⟨v3, rfl, sv3, b3⟩
          have B3 := bstep HB.out b3
          clear sv3 b3
          go_wp2
          go_ret
          exact ⟨rfl, B3⟩
  · have t1 : decide ((n : Int) > 20) = true := by rw [decide_eq_true_eq]; omega
    go_wp2
    go_ret
    exact ⟨rfl, b1⟩
theorem lawCut' (a : Option Addr) (l c : Nat) (rs : List LR) (at' : Int) (_hm : (Lit.int .i64 at').wf = true) (w : World) (hl : rs.length = l) (h : SLo.good w 2 32 LR.cells (LR.good w) ⟨a, c, rs⟩) :
    Calls Try.prog 10 #[.slice a l c, .int .i64 at'] w fun e w' => e = .returned (.bool true) ∧ Below w.heap.size w w' := by
  subst hl
  exact lawCut a rs.length c rs at' w (recs_of h)
end Go.Proofs.Ytfcnpmkpdikgeaa

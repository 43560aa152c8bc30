/- The walk of the statement EdgeUses. -/
import Derived.Test.YthccjefhlmngbaaDoorUsp
namespace Go.Proofs.YthccjefhlmngbaaDoor
open Go.RowKit

/-- what a round finds -/
def UsI (w0 w : World) (eb tb mb B : Nat) (k used : Nat) : Prop :=
  ∃ v L M, Ses w0.heap.size w0 w eb tb mb 0 B v L M 1 ∧ LowF L k ∧ L.length = k ∧ M (hbx 0) = some (hqp 1099511627776 used) ∧ used ≤ 16777216 * k
set_option maxRecDepth 100000 in
set_option maxHeartbeats 8000000 in
theorem lawUses (a : Option Addr) (l c : Nat) (us : List Nat) (back : Int) (hu : ∀ u ∈ us, u < 18446744073709551616) (_hb : (Lit.int .i64 back).wf = true) (_hz : l * 8 ≤ 140737488351232) (w : World) (hs : Sl .u64 w a l c us) (ht : Tabs w) :
    Calls Tryd.prog 3 #[.slice a l c, .int .i64 back] w fun e w' => e = .returned (.bool true) ∧ Below w.heap.size w w' := by
  have HT := hid ht
  have HS := hid hs
  have HU := hid hu
  have un := Tryd.underlying27
  have unL := Tryd.underlying42
  have lbz := hid (infoBl 0)
  clear ht hs hu
  go_enter Tryd.func3, Tryd.ntmps3
  go_wp2_with (fail)
  refine (ehead_walk w HT.out).mono ?_
  rintro e w1 ⟨rfl, b1⟩
  have B1 := hid b1
  clear b1
  by_cases hl : l ≤ 20
  case neg =>
    have t1 : decide (20 < l) = true := decide_eq_true (by omega)
    have t2 : decide ((l : Int) > 20) = true := decide_eq_true (by omega)
    have t3 : decide (20 < (l : Int)) = true := decide_eq_true (by omega)
    go_wp2
    go_ret
    exact ⟨rfl, B1.out⟩
  have t1 : decide (20 < l) = false := decide_eq_false (by omega)
  have t2 : decide ((l : Int) > 20) = false := decide_eq_false (by omega)
  have t3 : decide (20 < (l : Int)) = false := decide_eq_false (by omega)
  have HL := hid hl
  go_upto_region 5 with (fail)
  clear t1 t2 t3 hl
  have qok := hid (qd1_ok (m := 1099511627776) (by decide))
  have bq : Tryd.prog.built 32 [(0, .agg (nums .u8 (hbx 9)).toArray), (2, .int .u64 1099511627776), (3, .agg #[.int .u64 1, .int .u64 1]), (4, .int .i64 40)] = some (qd1 1099511627776).cells.toArray := bqd1 1099511627776
  have bR := bR11
  have bH9 := bh9
  go_wp2_with (first | with_reducible refine wpList_mk1 bH9 rfl ?_ | with_reducible refine wpList_mk2 bR rfl rfl ?_ | with_reducible refine wpList_mk4 bq rfl rfl rfl rfl ?_ | with_reducible refine wpList_qlit qok rfl ?_)
  refine (quotes_walk _ 1 1 [qd1 1099511627776] (by decide) _ (qds_one qok.out (heap_alloc_new w1 _))).mono ?_
  rintro e w3 ⟨tb, mb, rfl, t3, l1, l2, b3⟩
  obtain ⟨M0, eM, hM⟩ := quS_one (m := 1099511627776) (by decide)
  rw [show quS 0 [qd1 1099511627776] (fun _ => none) 0 = (M0, 1) from eM] at t3
  have T3 := hid (show TabAt w3 tb mb M0 1 from t3)
  have BA := (Below.refl w1.heap.size w1).alloc (Nat.le_refl _) (.cells (qd1 1099511627776).cells.toArray 32)
  have BB := hid (BA.trans (b3.mono BA.size))
  have L2 := hid (Nat.le_trans BA.size l2)
  have HM := hid hM
  have B3 := hid (bstep B1.out BB.out)
  have LW := hid (show w.heap.size ≤ w1.heap.size from B1.out.size)
  clear t3 l1 l2 b3 BA eM hM bq
  go_wp2_with (fail)
  refine (enew_walk 0 (by decide) (by decide) tb mb 1 M0 w3 T3.out).mono ?_
  rintro e w4 ⟨rfl, s4, b4, z4⟩
  have S4 := hid (show Ses w.heap.size w w4 w3.heap.size tb mb 0 w4.heap.size (.slice none 0 0) [] M0 1 from ⟨s4, bstep B3.out b4, by have := B3.out.size; have := L2.out; have := LW.out; have := b4.size; omega⟩)
  generalize w3.heap.size = eb at *
  generalize w4.heap.size = B at *
  clear s4 b4 z4 B3 BB LW L2 T3
  have ZL := zeroL
  have hneL := zL_ne
  have ZQ := zeroQ
  have bZ := bh0
  go_upto_region 10 with (fail)
  go_upto_region 11 with (fail)
  go_loopw [8, 36] (fun x8 x36 wr => ∃ k u : Nat, k ≤ l ∧ x8 = .int .u64 (u : Int) ∧ x36 = .int .i64 (k : Int) ∧ UsI w wr eb tb mb B k u) (fun _ x36 _ => l - (intOf x36).toNat)
  case atStart => exact ⟨0, 0, by omega, rfl, rfl, _, [], M0, S4.out, LowF.nil, rfl, HM.out, by decide⟩
  case round =>
    obtain ⟨k, u, hk, rfl, rfl, v, L, M, hS, hL, hN, hM, hU⟩ := hrel
    have S5 := hid hS
    have LO := hid hL
    have LN := hid hN
    have HM := hid hM
    have LU := hid hU
    clear hS hL hN hM hU S4
    by_cases hlt : k < l
    case neg =>
      obtain rfl : k = l := by omega
      have t1 : decide (k < k) = false := decide_eq_false (by omega)
      go_upto_region 27 with (fail)
      go_wp2_with (fail)
      refine (eall_walk _ _ _ _ _ _ wr S5.out.s.e).mono ?_
      rintro e w6 ⟨a1, c1, rfl, -, b6⟩
      have S6 := hid (S5.out.below b6)
      rw [LN.out]
      clear b6
      go_wp2
      go_ret
      exact ⟨rfl, S6.out.b⟩
    obtain ⟨b, off, ha, hc⟩ := (HS.out.below S5.out.b).opened
    have hak := ha (by omega)
    subst hak
    have hck := hc k hlt
    have t1 : decide (k < l) = true := decide_eq_true hlt
    obtain ⟨x, hx⟩ : ∃ x, x = us.getD k 0 := ⟨_, rfl⟩
    rw [← hx] at hck
    have hxb : x < 18446744073709551616 := by rw [hx]; exact getD_ltU HU.out (by decide) k
    have ra : bits .and .u64 (x : Int) 16777215 = ((x % 16777216 : Nat) : Int) := andU x 24 hxb (by decide)
    obtain ⟨m, hm⟩ : ∃ m : Nat, m = 1 + x % 16777216 := ⟨_, rfl⟩
    have rm : IntKind.u64.wrap (1 + ((x % 16777216 : Nat) : Int)) = (m : Int) := by rw [IntKind.wrap_u64]; omega
    have M1 := hid (show m ≠ 0 from by omega)
    have LM := hid (show m ≤ 16777216 from by omega)
    have hl20 := HL.out
    have M3 := hid (show u + m ≤ 1099511627776 from by have := LU.out; omega)
    have rw2 : IntKind.u64.wrap ((u : Int) + (m : Int)) = ((u + m : Nat) : Int) := by have := M3.out; rw [IntKind.wrap_u64]; omega
    obtain ⟨um, hum⟩ : ∃ um, um = u + m := ⟨_, rfl⟩
    rw [← hum] at rw2
    have UM := hid hum
    generalize ((x % 16777216 : Nat) : Int) = x2 at ra rm
    obtain ⟨nb, hnb, rb⟩ := wrap8 (k : Int)
    have NB := hid hnb
    have KW := hid (show (Lit.int .i64 (k : Int)).wf = true from i64_wf (by omega) (by omega))
    have T5 := hid (HT.out.below S5.out.b)
    have LT := hid hlt
    clear hx hxb hm hnb hum hc ha hl20 hk
    go_upto_region 14 with (fail)
    clear hck ra rm
    go_wp2_with (with_reducible refine wpList_mk1 bH9 rfl ?_)
    refine (lock_walk nb NB.out wr T5.out).mono ?_
    rintro e w6 ⟨rfl, b6⟩
    have HLK := hid (lockOf_ok nb)
    have S6 := hid (S5.out.below b6)
    have T6 := hid (T5.out.below b6)
    have LKW := fun wx (hx : Tabs wx) => hid (lock_walk nb NB.out wx hx)
    generalize lockOf nb = lk at *
    clear b6 S5 T5
    have iok := hid (legI_ok KW.out (show m < 18446744073709551616 from by have := LM.out; omega) HLK.out)
    have ook := hid (legO_ok (til := 50) KW.out (show m < 18446744073709551616 from by have := LM.out; omega) HLK.out (by decide))
    have iia := hid (infoLa iok.out)
    have iiz := hid (zL_as iok.out)
    have iio := hid (all_oneCell_toArray (Lg.one (legI k m lk)))
    have ial := hid (infoLl iok.out)
    have oia := hid (infoLa ook.out)
    have oiz := hid (zL_as ook.out)
    have oio := hid (all_oneCell_toArray (Lg.one (legO k m lk 50)))
    have oal := hid (infoLl ook.out)
    have bI := bofrC (hbx 9) rfl lk HLK.out.1 m k 50
    have bI2 := bleg 1 (legI k m lk).o rfl HLK.out.1
    go_upto_region 15 with (first | with_reducible refine wpList_mk5 bI rfl rfl rfl rfl rfl ?_ | with_reducible refine wpList_mk2 bI2 rfl rfl ?_ | (with_reducible refine wpList_var (legI k m lk).cells.toArray _ ZL iia iiz iio rfl rfl ?_; intro w7 hI hb7))
    have S7 := hid (S6.out.below hb7)
    have T7 := hid (T6.out.below hb7)
    have I7 := hid (Held.new S6.out hI (Nat.le_refl _))
    obtain ⟨R, hR⟩ : ∃ R, R = w6.heap.size := ⟨_, rfl⟩
    rw [← hR] at I7 ⊢
    clear hI hb7 hR S6 T6 bI bI2
    go_wp2_with (fail)
    refine (LKW _ T7.out).out.mono ?_
    rintro e w8 ⟨rfl, b8⟩
    have S8 := hid (S7.out.below b8)
    have I8 := hid (I7.out.below b8)
    clear b8 S7 I7 T7 LKW
    have bO := bofrD lk HLK.out.1 m k 50
    have bO2 := bleg 2 (legO k m lk 50).o rfl HLK.out.1
    go_upto_region 16 with (first | with_reducible refine wpList_mk4 bO rfl rfl rfl rfl ?_ | with_reducible refine wpList_mk2 bO2 rfl rfl ?_ | (with_reducible refine wpList_var (legO k m lk 50).cells.toArray _ ZL oia oiz oio rfl rfl ?_; intro w9 hI hb9))
    have S9 := hid (S8.out.below hb9)
    have I9 := hid (I8.out.below hb9)
    have O9 := hid (Held.new S8.out hI (Nat.le_refl _))
    obtain ⟨U, hU⟩ : ∃ U, U = w8.heap.size := ⟨_, rfl⟩
    rw [← hU] at O9 ⊢
    clear hI hb9 hU S8 I8 bO bO2
    have r9 := row_range I9.out.1
    have q9 := row_range O9.out.1
    go_wp2_with (first | with_reducible refine wpList_ld R 0 (legI k m lk).cells r9 unL ial rfl rfl ?_ | with_reducible refine wpList_ld U 0 (legO k m lk 50).cells q9 unL oal rfl rfl ?_ | with_reducible refine wpList_mk0 bZ ?_)
    refine (hand_walk eb tb mb 0 B v L M 1 (legI k m lk) (legO k m lk 50) iok.out ook.out (hbx 0) (hbx_ok (by decide)) 9 w9 S9.out.s).mono ?_
    rintro e w10 ⟨rfl, v1, s10, k10, y10⟩
    have hu : handU M (legI k m lk) (legO k m lk 50) (hbx 0) 9 = (hqp 1099511627776 (u + m), 0) := handU_11 HM.out M3.out (by decide) M1.out
    rw [show handC (legI k m lk) (legO k m lk 50) (hbx 0) 9 0 L M = 0 from handC_11 HM.out M3.out (by decide) M1.out (by decide) (by decide) (by decide) (by have := LN.out; have := LT.out; have := HL.out; omega) LO.out.any.1 LO.out.any.2] at s10 ⊢
    rw [hu] at s10
    rw [← UM.out] at s10
    have S10 := hid (S9.out.call (show Shop w10 eb tb mb 0 B v1 (L ++ [fwd1 k m lk]) (updM M (hbx 0) (hqp 1099511627776 um)) 1 from s10) k10)
    have I10 := hid (I9.out.call k10 y10)
    clear s10 k10 y10 hu r9 q9 S9 I9 O9
    go_upto_region 18 with (fail)
    obtain ⟨bb, hbb⟩ : ∃ bb, (bits BinOp.and IntKind.i64 (back / 2 ^ min k 64) 1 == 1) = bb := ⟨_, rfl⟩
    have L1 := hid (show LowF (L ++ [fwd1 k m lk]) (k + 1) from by have := LO.out.snoc m lk 0; rwa [st0] at this)
    have MB := hid (show (updM M (hbx 0) (hqp 1099511627776 um)) (hbx 0) = some (hqp 1099511627776 um) from by unfold updM; rw [if_pos rfl])
    cases bb
    case' true =>
      go_upto_region 19 with (fail)
      go_wp2_with (fail)
      refine (given_walk eb tb mb 0 B v1 (L ++ [fwd1 k m lk]) _ 1 2 k w10 S10.out.s).mono ?_
      rintro e w11 ⟨lg, kc, L', M', rfl, s11, k11, c11, lok⟩
      obtain ⟨rfl, rfl, hL', hM'⟩ := givC_last c11 LO.out.hits.2 (by rw [← st0, hit_out, decide_eq_true rfl]) (by rw [fwd1_eq])
      have S11 := hid (S10.out.call s11 k11)
      have I11 := hid (I10.out.leg k11)
      have M2 := hid (show M' (hbx 0) = some (hqp 1099511627776 u) from by
        rw [hM']
        show resM (updM M (hbx 0) (hqp 1099511627776 um)) (fwd1 k m lk).qt (undoS ((updM M (hbx 0) (hqp 1099511627776 um)) (fwd1 k m lk).qt) (fwd1 k m lk).units) (hbx 0) = _
        rw [fwd1_eq]
        show resM (updM M (hbx 0) (hqp 1099511627776 um)) (hbx 0) (undoS ((updM M (hbx 0) (hqp 1099511627776 um)) (hbx 0)) m) (hbx 0) = _
        rw [MB.out, UM.out, undo_11]
        unfold resM
        rw [if_pos rfl]
        unfold updM
        rw [if_pos rfl])
      have L2 := hid (show LowF L' (k + 1) from by rw [hL']; exact LO.out.snoc m lk 2)
      have N2 := hid (show L'.length = k + 1 from by rw [hL', List.length_append, LN.out]; rfl)
      have U2 := hid (show u ≤ 16777216 * (k + 1) from by have := LU.out; omega)
      rw [show (fwd1 k m lk).inn = legI k m lk from by rw [fwd1_eq]]
      clear s11 k11 c11 lok hL' hM' S10 I10 L1 MB
      go_upto_region 20 with (first | (with_reducible refine wpList_var (legI k m lk).cells.toArray _ ZL iia iiz iio rfl rfl ?_; intro w12 hI hb12))
      have S12 := hid (S11.out.below hb12)
      have I12 := hid (I11.out.below hb12)
      obtain ⟨V, hV⟩ : ∃ V, V = w11.heap.size := ⟨_, rfl⟩
      rw [← hV] at hI ⊢
      have ls := leg_self iok.out
      have lgd := leg_guard (legI k m lk) (legI k m lk)
      have r12 := row_range I12.out.1
      have v12 := row_range hI
      clear hb12 hV S11 I11 hI
      go_upto_region 23 with (first | with_reducible refine wpList_ldG R 0 (legI k m lk).cells r12 unL ial rfl rfl rfl ?_ | with_reducible refine wpList_ldG V 0 (legI k m lk).cells v12 unL ial rfl rfl rfl ?_)
      clear ls lgd r12 v12 I12 rw2
      have UZ := hid (show ∃ z, z = u from ⟨u, rfl⟩)
      generalize u = z at *
    case' false =>
      have M2 := MB
      have L2 := L1
      have N2 := hid (show (L ++ [fwd1 k m lk]).length = k + 1 from by rw [List.length_append, LN.out]; rfl)
      have U2 := hid (show um ≤ 16777216 * (k + 1) from by have := LU.out; have := UM.out; have := LM.out; omega)
      have S12 := S10
      go_upto_region 23 with (fail)
      clear S10 I10 L1 MB rw2
      generalize w10 = w12 at *
      generalize um = z at *
    all_goals
      go_wp2_with (with_reducible refine wpList_mk0 bZ ?_)
      refine (tget_walk tb mb 1 _ (hbx 0) (hbx_ok (by decide)) w12 S12.out.s.t).mono ?_
      rintro e w14 ⟨rfl, b14⟩
      rw [M2.out]
      have S14 := hid (S12.out.below b14)
      have z64 : z < 18446744073709551616 := by have := U2.out; have := HL.out; have := LT.out; omega
      have qk := hid (hqp_ok (m := 1099511627776) (by decide) z64)
      have qia := hid (infoQa qk.out)
      have qiz := hid (zQ_as qk.out)
      have qio := hid (all_oneCell_toArray (Quo.one (hqp 1099511627776 z)))
      clear b14 S12
      go_upto_region 24 with (first | (with_reducible refine wpList_var (hqp 1099511627776 z).cells.toArray _ ZQ qia qiz qio rfl rfl ?_; intro w15 hI hb15))
      have S15 := hid (S14.out.below hb15)
      obtain ⟨G, hG⟩ : ∃ G, G = w14.heap.size := ⟨_, rfl⟩
      rw [← hG] at hI ⊢
      have c70 : w15.cell? ⟨G, 70, none⟩ = some (.int .u64 (z : Int)) := gen_cell (j := 70) (row_range hI) rfl
      have tz : ((z : Int) == (z : Int)) = true := by simp
      have tz2 : ((z : Int) != (z : Int)) = false := by simp
      clear hI hb15 hG S14
      go_upto_region 26 with (fail)
      go_wp2_with (fail)
      go_roundw
      case rel => exact ⟨k + 1, z, by have := LT.out; omega, rfl, by go_num, _, _, _, S15.out, L2.out, N2.out, M2.out, U2.out⟩
      case measure => simp [intOf]; have := LT.out; omega
end Go.Proofs.YthccjefhlmngbaaDoor

/- The walk of the statement EdgePays. -/
import Derived.Test.YthccjefhlmngbaaDoorEg4
namespace Go.Proofs.YthccjefhlmngbaaDoor
open Go.RowKit

set_option maxRecDepth 100000 in
set_option maxHeartbeats 8000000 in
theorem lawPays (n : Int) (am : Nat) (twice : Bool) (hn : (Lit.int .i64 n).wf = true) (ham : am < 18446744073709551616) (w : World) (ht : Tabs w) :
    Calls Tryd.prog 7 #[.int .i64 n, .int .u64 (am : Int), .bool twice] w fun e w' => e = .returned (.bool true) ∧ Below w.heap.size w w' := by
  have HT := hid ht
  clear ht
  have un := Tryd.underlying27
  have unL := Tryd.underlying42
  obtain ⟨nb, hnb, rb⟩ := wrap8 n
  have ra : bits .and .u64 (am : Int) 65535 = ((am % 65536 : Nat) : Int) := andU am 16 ham (by decide)
  obtain ⟨m, hm⟩ : ∃ m : Nat, m = 1 + am % 65536 := ⟨_, rfl⟩
  have rm : IntKind.u64.wrap (1 + ((am % 65536 : Nat) : Int)) = (m : Int) := by rw [IntKind.wrap_u64]; omega
  have hm0 : m ≠ 0 := by omega
  have hm1 : m < 18446744073709551616 := by omega
  have HM0 := hid hm0
  have HM1 := hid hm1
  have HNB := hid hnb
  have HN := hid hn
  clear hm hm0 hm1 ham hnb hn
  generalize ((am % 65536 : Nat) : Int) = am2 at ra rm
  have obn := hid (all_oneCell_toArray (nums_oneCell .u8 (hbx nb)))
  have hbn := hid (infoB nb)
  have lbn := hid (infoBl nb)
  go_enter Tryd.func7, Tryd.ntmps7
  go_wp2_with (fail)
  refine (ehead_walk w HT.out).mono ?_
  rintro e w1 ⟨rfl, b1⟩
  have B1 := hid b1
  clear b1
  have bHn := bhx nb
  have bH9 := bh9
  have hz8 := zeroH
  have hzz := hid (show (nums .u8 hz32).toArray.size = (nums .u8 (hbx nb)).toArray.size from rfl)
  go_upto_region 5 with (first | with_reducible refine wpList_mk1 bHn rfl ?_ | (with_reducible refine wpList_var (nums .u8 (hbx nb)).toArray _ hz8 hbn hzz obn rfl rfl ?_; intro w2 hN hb2))
  have N2 := hid hN
  have B2 := hid (bstep B1.out hb2)
  obtain ⟨K, hK⟩ : ∃ K, K = w1.heap.size := ⟨_, rfl⟩
  rw [← hK] at N2 ⊢
  clear hN hb2 hK B1 bHn hz8 hzz
  have qok := hid (qd1_ok HM1.out)
  have bq := bqd1 m
  have bR := bR11
  go_wp2_with (first | with_reducible refine wpList_mk1 bH9 rfl ?_ | with_reducible refine wpList_mk2 bR rfl rfl ?_ | with_reducible refine wpList_mk4 bq rfl rfl rfl rfl ?_ | with_reducible refine wpList_qlit qok rfl ?_)
  refine (quotes_walk _ 1 1 [qd1 m] (by decide) _ (qds_one qok.out (heap_alloc_new w2 _))).mono ?_
  rintro e w3 ⟨tb, mb, rfl, t3, l1, l2, b3⟩
  obtain ⟨M, eM, hM⟩ := quS_one HM0.out
  rw [show quS 0 [qd1 m] (fun _ => none) 0 = (M, 1) from eM] at t3
  have T3 := hid (show TabAt w3 tb mb M 1 from t3)
  have BA := (Below.refl w2.heap.size w2).alloc (Nat.le_refl _) (.cells (qd1 m).cells.toArray 32)
  have BB := hid (BA.trans (b3.mono BA.size))
  have L1 := hid (Nat.le_trans BA.size l1)
  have L2 := hid (Nat.le_trans BA.size l2)
  have HM := hid hM
  have N3 := hid (heap_keep N2.out BB.out)
  have B3 := hid (bstep B2.out BB.out)
  have KT := hid (show K < w2.heap.size from (Array.getElem?_eq_some_iff.1 N2.out).1)
  have LW := hid (show w.heap.size ≤ w2.heap.size from B2.out.size)
  clear t3 l1 l2 b3 BA eM hM bq
  go_wp2_with (fail)
  refine (enew_walk 3 (by decide) (by decide) tb mb 1 M w3 T3.out).mono ?_
  rintro e w4 ⟨rfl, s4, b4, z4⟩
  have S4 := hid (show Ses w.heap.size w w4 w3.heap.size tb mb 3 w4.heap.size (.slice none 0 0) [] M 1 from ⟨s4, bstep B3.out b4, by have := B3.out.size; have := L2.out; have := LW.out; have := b4.size; omega⟩)
  have N4 := hid (show Held w4 w3.heap.size mb (.slice none 0 0) K _ from Held.old s4 (heap_keep N3.out b4) (by have := BB.out.size; have := KT.out; omega) (by have := L2.out; have := KT.out; omega) (by have := BB.out.size; have := KT.out; have := b4.size; omega))
  have T4 := hid (HT.out.below S4.out.b)
  generalize w3.heap.size = eb at *
  generalize w4.heap.size = B at *
  clear s4 b4 z4 N3 B3 BB KT LW L1 L2 T3 B2 N2
  go_wp2_with (with_reducible refine wpList_mk1 bH9 rfl ?_)
  refine (lock_walk nb HNB.out w4 T4.out).mono ?_
  rintro e w5 ⟨rfl, b5⟩
  have HLK := hid (lockOf_ok nb)
  have HKV := hid (show sha (hbx nb) = lockOf nb from rfl)
  have S5 := hid (S4.out.below b5)
  have N5 := hid (N4.out.below b5)
  have T5 := hid (T4.out.below b5)
  have LKW := fun wx (hx : Tabs wx) => hid (lock_walk nb HNB.out wx hx)
  generalize lockOf nb = lk at *
  clear b5 S4 N4 T4
  have iok := hid (legI_ok HN.out HM1.out HLK.out)
  have ook := hid (legO_ok (n := 5) (til := 45) (by decide) HM1.out HLK.out (by decide))
  have iia := hid (infoLa iok.out)
  have iiz := hid (zL_as iok.out)
  have iio := hid (all_oneCell_toArray (Lg.one (legI n m lk)))
  have ial := hid (infoLl iok.out)
  have oia := hid (infoLa ook.out)
  have oiz := hid (zL_as ook.out)
  have oio := hid (all_oneCell_toArray (Lg.one (legO 5 m lk 45)))
  have oal := hid (infoLl ook.out)
  have ZL := zeroL
  have hneL := zL_ne
  have bI := bofrC (hbx 9) rfl lk HLK.out.1 m n 50
  have bI2 := bleg 1 (legI n m lk).o rfl HLK.out.1
  go_upto_region 8 with (first | with_reducible refine wpList_mk5 bI rfl rfl rfl rfl rfl ?_ | with_reducible refine wpList_mk2 bI2 rfl rfl ?_ | (with_reducible refine wpList_var (legI n m lk).cells.toArray _ ZL iia iiz iio rfl rfl ?_; intro w6 hI hb6))
  have S6 := hid (S5.out.below hb6)
  have N6 := hid (N5.out.below hb6)
  have T6 := hid (T5.out.below hb6)
  have I6 := hid (Held.new S5.out hI (Nat.le_refl _))
  obtain ⟨R, hR⟩ : ∃ R, R = w5.heap.size := ⟨_, rfl⟩
  rw [← hR] at I6 ⊢
  have RB := hid (show B ≤ R from by rw [hR]; exact S5.out.s.lt.2.2)
  have KR := hid (show K < R from by rw [hR]; exact N5.out.low)
  clear hI hb6 hR S5 N5 T5 bI bI2
  go_wp2_with (fail)
  refine (LKW _ T6.out).out.mono ?_
  rintro e w7 ⟨rfl, b7⟩
  have S7 := hid (S6.out.below b7)
  have N7 := hid (N6.out.below b7)
  have I7 := hid (I6.out.below b7)
  have T7 := hid (T6.out.below b7)
  clear b7 S6 N6 I6 T6 LKW
  have bO := bofrD lk HLK.out.1 m 5 45
  have bO2 := bleg 2 (legO 5 m lk 45).o rfl HLK.out.1
  go_upto_region 9 with (first | with_reducible refine wpList_mk4 bO rfl rfl rfl rfl ?_ | with_reducible refine wpList_mk2 bO2 rfl rfl ?_ | (with_reducible refine wpList_var (legO 5 m lk 45).cells.toArray _ ZL oia oiz oio rfl rfl ?_; intro w8 hI hb8))
  have S8 := hid (S7.out.below hb8)
  have N8 := hid (N7.out.below hb8)
  have I8 := hid (I7.out.below hb8)
  have T8 := hid (T7.out.below hb8)
  have O8 := hid (Held.new S7.out hI (Nat.le_refl _))
  obtain ⟨U, hU⟩ : ∃ U, U = w7.heap.size := ⟨_, rfl⟩
  rw [← hU] at O8 ⊢
  have RU := hid (show R < U from by rw [hU]; exact I7.out.low)
  clear hI hb8 hU S7 N7 I7 T7 bO bO2
  have r8 := row_range I8.out.1
  have q8 := row_range O8.out.1
  have bZ := bh0
  have un := Tryd.underlying27
  go_wp2_with (first | with_reducible refine wpList_ldG R 0 (legI n m lk).cells r8 unL ial rfl rfl rfl ?_ | with_reducible refine wpList_ldG U 0 (legO 5 m lk 45).cells q8 unL oal rfl rfl rfl ?_ | with_reducible refine wpList_mk0G bZ rfl ?_)
  refine (hand_walk eb tb mb 3 B _ [] M 1 (legI n m lk) (legO 5 m lk 45) iok.out ook.out (hbx 0) (hbx_ok (by decide)) 9 w8 S8.out.s).mono ?_
  rintro e w9 ⟨rfl, v9, s9, k9, y9⟩
  rw [show handC (legI n m lk) (legO 5 m lk 45) (hbx 0) 9 3 [] M = 0 from handC_11 HM.out (by omega) HM1.out HM0.out (by decide) (by decide) (by decide) (by decide) rfl rfl] at s9 ⊢
  obtain ⟨M', hM'⟩ : ∃ M', M' = handM 0 M (hbx 0) (handU M (legI n m lk) (legO 5 m lk 45) (hbx 0) 9).1 := ⟨_, rfl⟩
  rw [← hM'] at s9
  obtain ⟨F, hF⟩ : ∃ F, F = newF (legI n m lk) (legO 5 m lk 45) (hbx 0) := ⟨_, rfl⟩
  rw [← hF] at s9
  have F1 := hid (show F.inn = legI n m lk from by rw [hF]; rfl)
  have F2 := hid (show F.out = legO 5 m lk 45 from by rw [hF]; rfl)
  have F3 := hid (show F.st = 0 from by rw [hF]; rfl)
  have S9 := hid (S8.out.call (show Shop w9 eb tb mb 3 B v9 [F] M' 1 from s9) k9)
  have N9 := hid (N8.out.call k9 y9)
  have I9 := hid (I8.out.call k9 y9)
  have O9 := hid (O8.out.call k9 y9)
  clear s9 k9 y9 hM' hF HM r8 q8 S8 N8 I8 O8 T8
  go_wp2_with (fail)
  refine (close_walk eb tb mb 3 B v9 [F] M' 1 1 n w9 S9.out.s).mono ?_
  rintro e w10 ⟨k, L', v10, rfl, s10, k10, y10, c10⟩
  obtain ⟨rfl, rfl⟩ := cloC_open c10 (by unfold hitF legOf; rw [if_neg (by decide), F1.out]; simp [legI]) F3.out
  have S10 := hid (S9.out.call s10 k10)
  have N10 := hid (N9.out.call k10 y10)
  have I10 := hid (I9.out.call k10 y10)
  have T10 := hid (HT.out.below S10.out.b)
  clear s10 k10 y10 c10 S9 N9 I9 O9
  have n10 := row_range N10.out.1
  go_wp2_with (first | with_reducible refine wpList_ld K 0 (nums .u8 (hbx nb)) n10 un lbn rfl rfl ?_)
  refine (settled_walk eb tb mb 3 B v10 [F] M' 1 2 5 (hbx nb) (hbx_ok HNB.out) w10 T10.out S10.out.s).mono ?_
  rintro e w11 ⟨lg, k, L', M2, rfl, s11, k11, c11, lok⟩
  obtain ⟨rfl, rfl, rfl, rfl⟩ := setC_one c11 (by unfold hitF legOf; rw [if_pos rfl, F2.out]; simp [legO]) (by rw [F2.out]; exact HKV.out) (by rw [F3.out]; decide)
  rw [F1.out] at lok ⊢
  obtain ⟨G, hG⟩ : ∃ G : Fw, G = { F with st := 1, sec := hbx nb } := ⟨_, rfl⟩
  rw [← hG] at s11
  have G1 := hid (show G.inn = legI n m lk from by rw [hG]; exact F1.out)
  have G2 := hid (show G.out = legO 5 m lk 45 from by rw [hG]; exact F2.out)
  have G3 := hid (show G.st = 1 from by rw [hG])
  have G4 := hid (show G.sec = hbx nb from by rw [hG])
  have S11 := hid (S10.out.call s11 k11)
  have N11 := hid (N10.out.leg k11)
  have I11 := hid (I10.out.leg k11)
  clear s11 k11 c11 hG S10 N10 I10 T10 n10 F1 F2 F3 lok
  go_upto_region 12 with (first | (with_reducible refine wpList_var (legI n m lk).cells.toArray _ ZL iia iiz iio rfl rfl ?_; intro w12 hI hb12))
  have S12 := hid (S11.out.below hb12)
  have N12 := hid (N11.out.below hb12)
  have I12 := hid (I11.out.below hb12)
  have V12 := hid (Held.new S11.out hI (Nat.le_refl _))
  obtain ⟨V, hV⟩ : ∃ V, V = w11.heap.size := ⟨_, rfl⟩
  rw [← hV] at V12 ⊢
  have BV := hid (show B ≤ V from by rw [hV]; exact S11.out.s.lt.2.2)
  have KV := hid (show K < V from by rw [hV]; exact N11.out.low)
  have RV := hid (show R < V from by rw [hV]; exact I11.out.low)
  clear hI hb12 hV S11 N11 I11
  have ls := leg_self iok.out
  have lgd := leg_guard (legI n m lk) (legI n m lk)
  have r12 := row_range I12.out.1
  have v12 := row_range V12.out.1
  go_upto_region 14 with (first | with_reducible refine wpList_ldG R 0 (legI n m lk).cells r12 unL ial rfl rfl rfl ?_ | with_reducible refine wpList_ldG V 0 (legI n m lk).cells v12 unL ial rfl rfl rfl ?_)
  clear r12 v12
  cases twice
  case' true =>
    have T12 := hid (HT.out.below S12.out.b)
    have n12 := row_range N12.out.1
    go_upto_region 15 with (fail)
    go_wp2_with (first | with_reducible refine wpList_ld K 0 (nums .u8 (hbx nb)) n12 un lbn rfl rfl ?_)
    refine (settled_walk eb tb mb 3 B v10 [G] _ 1 2 5 (hbx nb) (hbx_ok HNB.out) w12 T12.out S12.out.s).mono ?_
    rintro e w13 ⟨lg, k, L', M2, rfl, s13, k13, c13, lok⟩
    obtain ⟨rfl, rfl, rfl, rfl⟩ := setC_one c13 (by unfold hitF legOf; rw [if_pos rfl, G2.out]; simp [legO]) (by rw [G2.out]; exact HKV.out) (by rw [G3.out]; decide)
    rw [G1.out] at lok ⊢
    rw [show ({ G with st := 1, sec := hbx nb } : Fw) = G from by rw [← G3.out, ← G4.out]] at s13
    have S13 := hid (S12.out.call s13 k13)
    have N13 := hid (N12.out.leg k13)
    have I13 := hid (I12.out.leg k13)
    have V13 := hid (V12.out.leg k13)
    clear s13 k13 c13 S12 N12 I12 V12 T12 n12 lok
    have v13 := V13.out.1
    go_upto_region 16 with (first | with_reducible refine wpList_sr0 V (legI n m lk).cells.toArray 42 (legI n m lk).cells.toArray iia iio rfl rfl v13 rfl ?_)
    clear v13
    have f14 := far_row w13 V (legI n m lk).cells.toArray
    have hV14 : (w13.setRow V (legI n m lk).cells.toArray).heap[V]? = some (.cells (legI n m lk).cells.toArray 42 (0, 0)) := setRow_heap _ _ _ _ _ _ V13.out.1
    generalize w13.setRow V (legI n m lk).cells.toArray = w12 at *
    have S12 := hid (S13.out.far f14 BV.out V13.out.2.2.2)
    have N12 := hid (N13.out.far f14 (Nat.ne_of_lt KV.out))
    have I12 := hid (I13.out.far f14 (Nat.ne_of_lt RV.out))
    have V12 := hid (show Held w12 eb mb v10 V _ from ⟨hV14, V13.out.2⟩)
    clear f14 hV14 S13 N13 I13 V13
    have r12 := row_range I12.out.1
    have v12 := row_range V12.out.1
    go_upto_region 18 with (first | with_reducible refine wpList_ldG R 0 (legI n m lk).cells r12 unL ial rfl rfl rfl ?_ | with_reducible refine wpList_ldG V 0 (legI n m lk).cells v12 unL ial rfl rfl rfl ?_)
    clear r12 v12
  case' false =>
    go_upto_region 18 with (fail)
  case true =>
    go_wp2_with (fail)
    refine (given_walk eb tb mb 3 B v10 [G] _ 1 2 5 w12 S12.out.s).mono ?_
    rintro e w20 ⟨lg, k, L', M3, rfl, s20, k20, c20, lok⟩
    obtain ⟨rfl, rfl, rfl⟩ := givC_one c20 (by unfold hitF legOf; rw [if_pos rfl, G2.out]; simp [legO]) (by rw [G3.out]; decide)
    have S20 := hid (S12.out.call s20 k20)
    have N20 := hid (N12.out.leg k20)
    have lia := hid (infoLa lok)
    have liz := hid (zL_as lok)
    have lio := hid (all_oneCell_toArray (Lg.one lg))
    clear s20 k20 c20 S12 N12 I12 V12 lok
    go_upto_region 19 with (first | (with_reducible refine wpList_var lg.cells.toArray _ ZL lia liz lio rfl rfl ?_; intro w21 hI hb21))
    have S21 := hid (S20.out.below hb21)
    have N21 := hid (N20.out.below hb21)
    clear hI hb21 S20 N20
    go_wp2_with (fail)
    refine (eall_walk _ _ _ _ _ _ w21 S21.out.s.e).mono ?_
    rintro e w22 ⟨a2, c2, rfl, ⟨f22, fr22⟩, b22⟩
    have S22 := hid (S21.out.below b22)
    have N22 := hid (N21.out.below b22)
    obtain ⟨bb, oo, G', rfl, hG, rG, gok⟩ := f22.get (k := 0) Nat.zero_lt_one
    obtain rfl : G = G' := Option.some.inj hG
    have fr := fr22 bb rfl
    have NB := hid (show ¬ ShopS eb mb v10 bb from fun hh => by
      have h1 := S21.out.s.e.lt
      have h2 := S21.out.s.lt
      rcases hh with rfl | rfl | hh
      · omega
      · omega
      · have := (S21.out.s.e.own.lt _ hh).2
        omega)
    have NK := hid (show ¬ ShopS eb mb v10 K from fun hh => hh.elim N22.out.2.1 (fun hh => hh.elim N22.out.2.2.1 N22.out.2.2.2))
    have st := (Fw.hasSt gok).one rG
    rw [G3.out] at st
    have se := (Fw.hasSec gok).rng rG
    rw [G4.out] at se
    have ST := hid (show w22.cell? ⟨bb, oo + 203, none⟩ = some (.int .i64 1) from by simpa using st)
    have SE := hid (show w22.rangeAt bb (oo + 171) (nums .u8 (hbx nb)) from by simpa using se)
    have n22 := hid (row_range N22.out.1)
    have ew := eql_hv (xs := hbx nb) (ys := hbx nb) rfl rfl (hbx_ok HNB.out).2 (hbx_ok HNB.out).2
    have eg := guard_hv (hbx nb) (hbx nb)
    rw [decide_eq_true rfl] at ew
    unfold hv at ew eg
    clear f22 fr22 hG rG gok fr st se b22 S21 N21
    go_upto_region 20 with (fail)
    refine wp_region_held_drew (S := fun w' => Keep (ShopS eb mb v10) w22 w') (by kernel_rfl) (Keep.of ((Below.refl _ _).drew)) (fun hHeld => ?_)
    try simp only [List.size_toArray, List.length_cons, List.length_nil, Nat.reduceAdd, Array.replicate_succ, Array.replicate_zero, List.push_toArray, List.nil_append, List.cons_append]
    refine wpAnyH_take (i := 0) (oi := { dst := some 101, op := Op.move (Operand.tmp 16), type := 35, pos := "law.go:293", after := #[], guard := none }) (v := ?v1001) rfl (by kernel_rfl) (by kernel_rfl) (by kernel_rfl) (fun _ _ _ h => h) (Or.inl ⟨by rfl, ?hy1001⟩) hHeld ?_
    case hy1001 => (intro w hSw; (try dsimp only at hSw); go_simp; (try with_reducible rfl))
    (try simp only [Act.put, List.setIfInBounds_toArray, List.set_cons_zero, List.set_cons_succ])
    refine wpAnyH_take (i := 1) (oi := { dst := some 102, op := Op.binOp BinOp.eql 35 (Operand.tmp 101) (Operand.const (Value.int IntKind.i64 52)) 35, type := 4, pos := "law.go:293", after := #[{ on := 0, ground := Ground.data }], guard := none }) (v := ?v1002) rfl (by kernel_rfl) (by kernel_rfl) (by kernel_rfl) (fun _ _ _ h => h) (Or.inl ⟨by rfl, ?hy1002⟩) hHeld ?_
    case hy1002 => (intro w hSw; (try dsimp only at hSw); go_simp; (try with_reducible rfl))
    (try simp only [Act.put, List.setIfInBounds_toArray, List.set_cons_zero, List.set_cons_succ])
    refine wpAnyH_take (i := 2) (oi := { dst := some 103, op := Op.move (Operand.tmp 102), type := 4, pos := "law.go:293", after := #[{ on := 1, ground := Ground.data }], guard := none }) (v := ?v1003) rfl (by kernel_rfl) (by kernel_rfl) (by kernel_rfl) (fun _ _ _ h => h) (Or.inl ⟨by rfl, ?hy1003⟩) hHeld ?_
    case hy1003 => (intro w hSw; (try dsimp only at hSw); go_simp; (try with_reducible rfl))
    (try simp only [Act.put, List.setIfInBounds_toArray, List.set_cons_zero, List.set_cons_succ])
    refine wpAnyH_take (i := 3) (oi := { dst := some 104, op := Op.move (Operand.tmp 17), type := 51, pos := "law.go:293", after := #[{ on := 2, ground := Ground.guard }], guard := some (2, true) }) (v := ?v1004) rfl (by kernel_rfl) (by kernel_rfl) (by kernel_rfl) (fun _ _ _ h => h) (Or.inl ⟨by rfl, ?hy1004⟩) hHeld ?_
    case hy1004 => (intro w hSw; (try dsimp only at hSw); go_simp; (try with_reducible rfl))
    (try simp only [Act.put, List.setIfInBounds_toArray, List.set_cons_zero, List.set_cons_succ])
    refine wpAnyH_take (i := 4) (oi := { dst := some 105, op := Op.call { callee := Callee.builtin Builtin.len, args := #[Operand.tmp 104], argTypes := #[51] }, type := 3, pos := "law.go:293", after := #[{ on := 3, ground := Ground.data }, { on := 2, ground := Ground.guard }], guard := some (2, true) }) (v := .int .i64 1) rfl (by kernel_rfl) (by kernel_rfl) (by kernel_rfl) (fun _ _ _ h => h) (Or.inl ⟨by rfl, fun w h => by have hc := h; go_simp⟩) hHeld ?_
    (try simp only [Act.put, List.setIfInBounds_toArray, List.set_cons_zero, List.set_cons_succ])
    refine wpAnyH_take (i := 5) (oi := { dst := some 106, op := Op.binOp BinOp.eql 3 (Operand.tmp 105) (Operand.const (Value.int IntKind.i64 1)) 3, type := 4, pos := "law.go:293", after := #[{ on := 4, ground := Ground.data }, { on := 2, ground := Ground.guard }], guard := some (2, true) }) (v := ?v1005) rfl (by kernel_rfl) (by kernel_rfl) (by kernel_rfl) (fun _ _ _ h => h) (Or.inl ⟨by rfl, ?hy1005⟩) hHeld ?_
    case hy1005 => (intro w hSw; (try dsimp only at hSw); go_simp; (try with_reducible rfl))
    (try simp only [Act.put, List.setIfInBounds_toArray, List.set_cons_zero, List.set_cons_succ])
    refine wpAnyH_take (i := 6) (oi := { dst := some 107, op := Op.pick (Operand.tmp 103) (Operand.tmp 106) (Operand.const (Value.bool false)), type := 4, pos := "law.go:293", after := #[{ on := 2, ground := Ground.data }, { on := 5, ground := Ground.data }], guard := none }) (v := ?v1006) rfl (by kernel_rfl) (by kernel_rfl) (by kernel_rfl) (fun _ _ _ h => h) (Or.inl ⟨by rfl, ?hy1006⟩) hHeld ?_
    case hy1006 => (intro w hSw; (try dsimp only at hSw); go_simp; (try with_reducible rfl))
    (try simp only [Act.put, List.setIfInBounds_toArray, List.set_cons_zero, List.set_cons_succ])
    refine wpAnyH_take (i := 7) (oi := { dst := some 108, op := Op.move (Operand.tmp 107), type := 4, pos := "law.go:293", after := #[{ on := 6, ground := Ground.data }, { on := 2, ground := Ground.chain }], guard := none }) (v := ?v1007) rfl (by kernel_rfl) (by kernel_rfl) (by kernel_rfl) (fun _ _ _ h => h) (Or.inl ⟨by rfl, ?hy1007⟩) hHeld ?_
    case hy1007 => (intro w hSw; (try dsimp only at hSw); go_simp; (try with_reducible rfl))
    (try simp only [Act.put, List.setIfInBounds_toArray, List.set_cons_zero, List.set_cons_succ])
    refine wpAnyH_take (i := 8) (oi := { dst := some 109, op := Op.move (Operand.tmp 17), type := 51, pos := "law.go:293", after := #[{ on := 7, ground := Ground.guard }], guard := some (7, true) }) (v := ?v1008) rfl (by kernel_rfl) (by kernel_rfl) (by kernel_rfl) (fun _ _ _ h => h) (Or.inl ⟨by rfl, ?hy1008⟩) hHeld ?_
    case hy1008 => (intro w hSw; (try dsimp only at hSw); go_simp; (try with_reducible rfl))
    (try simp only [Act.put, List.setIfInBounds_toArray, List.set_cons_zero, List.set_cons_succ])
    refine wpAnyH_take (i := 9) (oi := { dst := some 110, op := Op.indexAddr 51 (Operand.tmp 109) (Operand.const (Value.int IntKind.i64 0)), type := 0, pos := "law.go:293", after := #[{ on := 8, ground := Ground.data }, { on := 7, ground := Ground.guard }], guard := some (7, true) }) (v := ?v1009) rfl (by kernel_rfl) (by kernel_rfl) (by kernel_rfl) (fun _ _ _ h => h) (Or.inl ⟨by rfl, ?hy1009⟩) hHeld ?_
    case hy1009 => (intro w hSw; (try dsimp only at hSw); go_simp; (try with_reducible rfl))
    (try simp only [Act.put, List.setIfInBounds_toArray, List.set_cons_zero, List.set_cons_succ])
    refine wpAnyH_take (i := 10) (oi := { dst := some 111, op := Op.fieldAddr 62 (Operand.tmp 110) 5, type := 0, pos := "law.go:293", after := #[{ on := 9, ground := Ground.data }, { on := 7, ground := Ground.guard }], guard := some (7, true) }) (v := ?v1010) rfl (by kernel_rfl) (by kernel_rfl) (by kernel_rfl) (fun _ _ _ h => h) (Or.inl ⟨by rfl, ?hy1010⟩) hHeld ?_
    case hy1010 => (intro w hSw; (try dsimp only at hSw); go_simp; (try with_reducible rfl))
    (try simp only [Act.put, List.setIfInBounds_toArray, List.set_cons_zero, List.set_cons_succ])
    refine wpAnyH_take (i := 11) (oi := { dst := some 112, op := Op.load 3 (Operand.tmp 111), type := 3, pos := "law.go:293", after := #[{ on := 10, ground := Ground.data }, { on := 7, ground := Ground.guard }], guard := some (7, true) }) (v := .int .i64 1) rfl (by kernel_rfl) (by kernel_rfl) (by kernel_rfl) (fun _ _ _ h => h) (Or.inl ⟨by rfl, fun w h => by have hc := h.cell ST.out NB.out; go_simp⟩) hHeld ?_
    (try simp only [Act.put, List.setIfInBounds_toArray, List.set_cons_zero, List.set_cons_succ])
    refine wpAnyH_take (i := 12) (oi := { dst := some 113, op := Op.binOp BinOp.eql 3 (Operand.tmp 112) (Operand.const (Value.int IntKind.i64 1)) 3, type := 4, pos := "law.go:293", after := #[{ on := 11, ground := Ground.data }, { on := 7, ground := Ground.guard }], guard := some (7, true) }) (v := ?v1011) rfl (by kernel_rfl) (by kernel_rfl) (by kernel_rfl) (fun _ _ _ h => h) (Or.inl ⟨by rfl, ?hy1011⟩) hHeld ?_
    case hy1011 => (intro w hSw; (try dsimp only at hSw); go_simp; (try with_reducible rfl))
    (try simp only [Act.put, List.setIfInBounds_toArray, List.set_cons_zero, List.set_cons_succ])
    refine wpAnyH_take (i := 13) (oi := { dst := some 114, op := Op.pick (Operand.tmp 108) (Operand.tmp 113) (Operand.const (Value.bool false)), type := 4, pos := "law.go:293", after := #[{ on := 7, ground := Ground.data }, { on := 12, ground := Ground.data }], guard := none }) (v := ?v1012) rfl (by kernel_rfl) (by kernel_rfl) (by kernel_rfl) (fun _ _ _ h => h) (Or.inl ⟨by rfl, ?hy1012⟩) hHeld ?_
    case hy1012 => (intro w hSw; (try dsimp only at hSw); go_simp; (try with_reducible rfl))
    (try simp only [Act.put, List.setIfInBounds_toArray, List.set_cons_zero, List.set_cons_succ])
    refine wpAnyH_take (i := 14) (oi := { dst := some 115, op := Op.move (Operand.tmp 114), type := 4, pos := "law.go:293", after := #[{ on := 13, ground := Ground.data }, { on := 7, ground := Ground.chain }], guard := none }) (v := ?v1013) rfl (by kernel_rfl) (by kernel_rfl) (by kernel_rfl) (fun _ _ _ h => h) (Or.inl ⟨by rfl, ?hy1013⟩) hHeld ?_
    case hy1013 => (intro w hSw; (try dsimp only at hSw); go_simp; (try with_reducible rfl))
    (try simp only [Act.put, List.setIfInBounds_toArray, List.set_cons_zero, List.set_cons_succ])
    refine wpAnyH_take (i := 15) (oi := { dst := some 116, op := Op.move (Operand.tmp 17), type := 51, pos := "law.go:293", after := #[{ on := 14, ground := Ground.guard }], guard := some (14, true) }) (v := ?v1014) rfl (by kernel_rfl) (by kernel_rfl) (by kernel_rfl) (fun _ _ _ h => h) (Or.inl ⟨by rfl, ?hy1014⟩) hHeld ?_
    case hy1014 => (intro w hSw; (try dsimp only at hSw); go_simp; (try with_reducible rfl))
    (try simp only [Act.put, List.setIfInBounds_toArray, List.set_cons_zero, List.set_cons_succ])
    refine wpAnyH_take (i := 16) (oi := { dst := some 117, op := Op.indexAddr 51 (Operand.tmp 116) (Operand.const (Value.int IntKind.i64 0)), type := 0, pos := "law.go:293", after := #[{ on := 15, ground := Ground.data }, { on := 14, ground := Ground.guard }], guard := some (14, true) }) (v := ?v1015) rfl (by kernel_rfl) (by kernel_rfl) (by kernel_rfl) (fun _ _ _ h => h) (Or.inl ⟨by rfl, ?hy1015⟩) hHeld ?_
    case hy1015 => (intro w hSw; (try dsimp only at hSw); go_simp; (try with_reducible rfl))
    (try simp only [Act.put, List.setIfInBounds_toArray, List.set_cons_zero, List.set_cons_succ])
    refine wpAnyH_take (i := 17) (oi := { dst := some 118, op := Op.fieldAddr 62 (Operand.tmp 117) 4, type := 0, pos := "law.go:293", after := #[{ on := 16, ground := Ground.data }, { on := 14, ground := Ground.guard }], guard := some (14, true) }) (v := ?v1016) rfl (by kernel_rfl) (by kernel_rfl) (by kernel_rfl) (fun _ _ _ h => h) (Or.inl ⟨by rfl, ?hy1016⟩) hHeld ?_
    case hy1016 => (intro w hSw; (try dsimp only at hSw); go_simp; (try with_reducible rfl))
    (try simp only [Act.put, List.setIfInBounds_toArray, List.set_cons_zero, List.set_cons_succ])
    refine' wpAnyH_take (i := 18) (oi := { dst := some 119, op := Op.load 27 (Operand.tmp 118), type := 27, pos := "law.go:293", after := #[{ on := 17, ground := Ground.data }, { on := 14, ground := Ground.guard }], guard := some (14, true) }) (v := _) rfl (by kernel_rfl) (by kernel_rfl) (by kernel_rfl) (fun _ _ _ h => h) (yieldsIf_load_mid (by rfl) _ _ rfl bb (oo + 171) rfl (nums .u8 (hbx nb)) _ (fun _ h => h.range SE.out NB.out) un rfl lbn.out) hHeld ?_
    (try simp only [Act.put, List.setIfInBounds_toArray, List.set_cons_zero, List.set_cons_succ])
    refine' wpAnyH_take (i := 19) (oi := { dst := some 120, op := Op.load 27 (Operand.tmp 7), type := 27, pos := "law.go:293", after := #[{ on := 14, ground := Ground.guard }], guard := some (14, true) }) (v := _) rfl (by kernel_rfl) (by kernel_rfl) (by kernel_rfl) (fun _ _ _ h => h) (yieldsIf_load_mid (by rfl) _ _ rfl K 0 rfl (nums .u8 (hbx nb)) _ (fun _ h => h.range n22.out NK.out) un rfl lbn.out) hHeld ?_
    (try simp only [Act.put, List.setIfInBounds_toArray, List.set_cons_zero, List.set_cons_succ])
    refine wpAnyH_take (i := 20) (oi := { dst := some 121, op := Op.binOp BinOp.eql 27 (Operand.tmp 119) (Operand.tmp 120) 27, type := 4, pos := "law.go:293", after := #[{ on := 18, ground := Ground.data }, { on := 19, ground := Ground.data }, { on := 14, ground := Ground.guard }], guard := some (14, true) }) (v := ?v1017) rfl (by kernel_rfl) (by kernel_rfl) (by kernel_rfl) (fun _ _ _ h => h) (Or.inl ⟨by rfl, ?hy1017⟩) hHeld ?_
    case hy1017 => (intro w hSw; (try dsimp only at hSw); go_simp; (try with_reducible rfl))
    (try simp only [Act.put, List.setIfInBounds_toArray, List.set_cons_zero, List.set_cons_succ])
    refine wpAnyH_take (i := 21) (oi := { dst := some 122, op := Op.pick (Operand.tmp 115) (Operand.tmp 121) (Operand.const (Value.bool false)), type := 4, pos := "law.go:293", after := #[{ on := 14, ground := Ground.data }, { on := 20, ground := Ground.data }], guard := none }) (v := ?v1018) rfl (by kernel_rfl) (by kernel_rfl) (by kernel_rfl) (fun _ _ _ h => h) (Or.inl ⟨by rfl, ?hy1018⟩) hHeld ?_
    case hy1018 => (intro w hSw; (try dsimp only at hSw); go_simp; (try with_reducible rfl))
    (try simp only [Act.put, List.setIfInBounds_toArray, List.set_cons_zero, List.set_cons_succ])
    refine wpAnyH_take (i := 22) (oi := { dst := some 123, op := Op.move (Operand.tmp 122), type := 4, pos := "law.go:293", after := #[{ on := 21, ground := Ground.data }, { on := 14, ground := Ground.chain }], guard := none }) (v := ?v1019) rfl (by kernel_rfl) (by kernel_rfl) (by kernel_rfl) (fun _ _ _ h => h) (Or.inl ⟨by rfl, ?hy1019⟩) hHeld ?_
    case hy1019 => (intro w hSw; (try dsimp only at hSw); go_simp; (try with_reducible rfl))
    (try simp only [Act.put, List.setIfInBounds_toArray, List.set_cons_zero, List.set_cons_succ])
    refine wpAnyH_take (i := 23) (oi := { dst := some 124, op := Op.move (Operand.tmp 9), type := 34, pos := "law.go:293", after := #[{ on := 22, ground := Ground.guard }], guard := some (22, true) }) (v := ?v1020) rfl (by kernel_rfl) (by kernel_rfl) (by kernel_rfl) (fun _ _ _ h => h) (Or.inl ⟨by rfl, ?hy1020⟩) hHeld ?_
    case hy1020 => (intro w hSw; (try dsimp only at hSw); go_simp; (try with_reducible rfl))
    (try simp only [Act.put, List.setIfInBounds_toArray, List.set_cons_zero, List.set_cons_succ])
    refine wpAnyH_take (i := 24) (oi := { dst := some 125, op := Op.move (Operand.tmp 0), type := 3, pos := "law.go:293", after := #[{ on := 22, ground := Ground.guard }], guard := some (22, true) }) (v := ?v1021) rfl (by kernel_rfl) (by kernel_rfl) (by kernel_rfl) (fun _ _ _ h => h) (Or.inl ⟨by rfl, ?hy1021⟩) hHeld ?_
    case hy1021 => (intro w hSw; (try dsimp only at hSw); go_simp; (try with_reducible rfl))
    (try simp only [Act.put, List.setIfInBounds_toArray, List.set_cons_zero, List.set_cons_succ])
    refine wpAnyH_ready (rs := [25]) (by kernel_rfl) (by simp) ?_
    refine AllReadyH.cons (o := { dst := some 126, op := Op.call { callee := Callee.value (Operand.func 17), args := #[Operand.tmp 124, Operand.const (Value.int IntKind.i64 1), Operand.tmp 125], argTypes := #[34, 3, 3] }, type := 35, pos := "law.go:293", after := #[{ on := 23, ground := Ground.data }, { on := 24, ground := Ground.data }, { on := 22, ground := Ground.chain }, { on := 22, ground := Ground.guard }], guard := some (22, true) }) rfl (fun K hK => ?_) ?_
    go_simp; refine (close_walk eb tb mb 3 B v10 [G] _ 1 1 n _ (S22.out.below ((Below.refl _ _).drew)).s).mono ?_; rintro e wc ⟨k, L', vc, rfl, sc, kc, yc, cc⟩; obtain ⟨rfl, rfl⟩ := cloC_shut cc (by unfold hitF legOf; rw [if_neg (by decide), G1.out]; simp [legI]) (by rw [G3.out]; decide); have SC := hid sc; have KC := hid kc; clear sc kc yc cc
    refine hK.out _ _ (hHeld.trans KC.out) (fun hHeld => ?_)
    clear hK K
    (try simp only [List.setIfInBounds_toArray, List.set_cons_zero, List.set_cons_succ])
    refine wpAnyH_take (i := 26) (oi := { dst := some 127, op := Op.binOp BinOp.eql 35 (Operand.tmp 126) (Operand.const (Value.int IntKind.i64 0)) 35, type := 4, pos := "law.go:293", after := #[{ on := 25, ground := Ground.data }, { on := 22, ground := Ground.guard }], guard := some (22, true) }) (v := ?v1022) rfl (by kernel_rfl) (by kernel_rfl) (by kernel_rfl) (fun _ _ _ h => h) (Or.inl ⟨by rfl, ?hy1022⟩) hHeld ?_
    case hy1022 => (intro w hSw; (try dsimp only at hSw); go_simp; (try with_reducible rfl))
    (try simp only [Act.put, List.setIfInBounds_toArray, List.set_cons_zero, List.set_cons_succ])
    refine wpAnyH_take (i := 27) (oi := { dst := some 128, op := Op.pick (Operand.tmp 123) (Operand.tmp 127) (Operand.const (Value.bool false)), type := 4, pos := "law.go:293", after := #[{ on := 22, ground := Ground.data }, { on := 26, ground := Ground.data }], guard := none }) (v := ?v1023) rfl (by kernel_rfl) (by kernel_rfl) (by kernel_rfl) (fun _ _ _ h => h) (Or.inl ⟨by rfl, ?hy1023⟩) hHeld ?_
    case hy1023 => (intro w hSw; (try dsimp only at hSw); go_simp; (try with_reducible rfl))
    (try simp only [Act.put, List.setIfInBounds_toArray, List.set_cons_zero, List.set_cons_succ])
    refine wpAnyH_take (i := 28) (oi := { dst := some 129, op := Op.move (Operand.tmp 128), type := 4, pos := "law.go:293", after := #[{ on := 27, ground := Ground.data }, { on := 25, ground := Ground.chain }], guard := none }) (v := ?v1024) rfl (by kernel_rfl) (by kernel_rfl) (by kernel_rfl) (fun _ _ _ h => h) (Or.inl ⟨by rfl, ?hy1024⟩) hHeld ?_
    case hy1024 => (intro w hSw; (try dsimp only at hSw); go_simp; (try with_reducible rfl))
    (try simp only [Act.put, List.setIfInBounds_toArray, List.set_cons_zero, List.set_cons_succ])
    refine wpAnyH_take (i := 29) (oi := { dst := some 130, op := Op.move (Operand.tmp 9), type := 34, pos := "law.go:293", after := #[{ on := 28, ground := Ground.guard }], guard := some (28, true) }) (v := ?v1025) rfl (by kernel_rfl) (by kernel_rfl) (by kernel_rfl) (fun _ _ _ h => h) (Or.inl ⟨by rfl, ?hy1025⟩) hHeld ?_
    case hy1025 => (intro w hSw; (try dsimp only at hSw); go_simp; (try with_reducible rfl))
    (try simp only [Act.put, List.setIfInBounds_toArray, List.set_cons_zero, List.set_cons_succ])
    refine wpAnyH_ready (rs := [30]) (by kernel_rfl) (by simp) ?_
    refine AllReadyH.cons (o := { dst := some 131, op := Op.call { callee := Callee.value (Operand.func 15), args := #[Operand.tmp 130], argTypes := #[34] }, type := 51, pos := "law.go:293", after := #[{ on := 29, ground := Ground.data }, { on := 28, ground := Ground.chain }, { on := 28, ground := Ground.guard }], guard := some (28, true) }) rfl (fun K hK => ?_) ?_
    go_simp; refine (eall_walk _ _ _ _ _ _ wc SC.out.e).mono ?_; rintro e we ⟨a3, c3, rfl, -, b3⟩; have B3 := hid b3; clear b3
    refine hK.out _ _ (hHeld.trans (Keep.of B3.out)) (fun hHeld => ?_)
    clear hK K
    (try simp only [List.setIfInBounds_toArray, List.set_cons_zero, List.set_cons_succ])
    refine wpAnyH_take (i := 31) (oi := { dst := some 132, op := Op.call { callee := Callee.builtin Builtin.len, args := #[Operand.tmp 131], argTypes := #[51] }, type := 3, pos := "law.go:293", after := #[{ on := 30, ground := Ground.data }, { on := 28, ground := Ground.guard }], guard := some (28, true) }) (v := .int .i64 0) rfl (by kernel_rfl) (by kernel_rfl) (by kernel_rfl) (fun _ _ _ h => h) (Or.inl ⟨by rfl, fun w h => by have hc := h; go_simp⟩) hHeld ?_
    (try simp only [Act.put, List.setIfInBounds_toArray, List.set_cons_zero, List.set_cons_succ])
    refine wpAnyH_take (i := 32) (oi := { dst := some 133, op := Op.binOp BinOp.eql 3 (Operand.tmp 132) (Operand.const (Value.int IntKind.i64 0)) 3, type := 4, pos := "law.go:293", after := #[{ on := 31, ground := Ground.data }, { on := 28, ground := Ground.guard }], guard := some (28, true) }) (v := ?v1026) rfl (by kernel_rfl) (by kernel_rfl) (by kernel_rfl) (fun _ _ _ h => h) (Or.inl ⟨by rfl, ?hy1026⟩) hHeld ?_
    case hy1026 => (intro w hSw; (try dsimp only at hSw); go_simp; (try with_reducible rfl))
    (try simp only [Act.put, List.setIfInBounds_toArray, List.set_cons_zero, List.set_cons_succ])
    refine wpAnyH_take (i := 33) (oi := { dst := some 134, op := Op.pick (Operand.tmp 129) (Operand.tmp 133) (Operand.const (Value.bool false)), type := 4, pos := "law.go:293", after := #[{ on := 28, ground := Ground.data }, { on := 32, ground := Ground.data }], guard := none }) (v := ?v1027) rfl (by kernel_rfl) (by kernel_rfl) (by kernel_rfl) (fun _ _ _ h => h) (Or.inl ⟨by rfl, ?hy1027⟩) hHeld ?_
    case hy1027 => (intro w hSw; (try dsimp only at hSw); go_simp; (try with_reducible rfl))
    (try simp only [Act.put, List.setIfInBounds_toArray, List.set_cons_zero, List.set_cons_succ])
    refine wpAnyH_take (i := 34) (oi := { dst := some 6, op := Op.assign (Operand.tmp 134), type := 4, pos := "law.go:293", after := #[{ on := 33, ground := Ground.data }, { on := 30, ground := Ground.chain }, { on := 0, ground := Ground.phase }, { on := 1, ground := Ground.phase }, { on := 2, ground := Ground.phase }, { on := 3, ground := Ground.phase }, { on := 4, ground := Ground.phase }, { on := 5, ground := Ground.phase }, { on := 6, ground := Ground.phase }, { on := 7, ground := Ground.phase }, { on := 8, ground := Ground.phase }, { on := 9, ground := Ground.phase }, { on := 10, ground := Ground.phase }, { on := 11, ground := Ground.phase }, { on := 12, ground := Ground.phase }, { on := 13, ground := Ground.phase }, { on := 14, ground := Ground.phase }, { on := 15, ground := Ground.phase }, { on := 16, ground := Ground.phase }, { on := 17, ground := Ground.phase }, { on := 18, ground := Ground.phase }, { on := 19, ground := Ground.phase }, { on := 20, ground := Ground.phase }, { on := 21, ground := Ground.phase }, { on := 22, ground := Ground.phase }, { on := 23, ground := Ground.phase }, { on := 24, ground := Ground.phase }, { on := 25, ground := Ground.phase }, { on := 26, ground := Ground.phase }, { on := 27, ground := Ground.phase }, { on := 28, ground := Ground.phase }, { on := 29, ground := Ground.phase }, { on := 30, ground := Ground.phase }, { on := 31, ground := Ground.phase }, { on := 32, ground := Ground.phase }, { on := 33, ground := Ground.phase }], guard := none }) (v := ?v1028) rfl (by kernel_rfl) (by kernel_rfl) (by kernel_rfl) (fun _ _ _ h => h) (Or.inl ⟨by rfl, ?hy1028⟩) hHeld ?_
    case hy1028 => (intro w hSw; (try dsimp only at hSw); go_simp; (try with_reducible rfl))
    (try simp only [Act.put, List.setIfInBounds_toArray, List.set_cons_zero, List.set_cons_succ])
    refine wpAnyH_done (by kernel_rfl) ?_ _
    rotate_left
    exact AllReadyH.nil
    exact AllReadyH.nil
    all_goals
      go_wp2
      go_ret
      exact ⟨rfl, S22.out.keep hHeld⟩
  case false =>
    go_wp2_with (fail)
    refine (given_walk eb tb mb 3 B v10 [G] _ 1 2 5 w12 S12.out.s).mono ?_
    rintro e w20 ⟨lg, k, L', M3, rfl, s20, k20, c20, lok⟩
    obtain ⟨rfl, rfl, rfl⟩ := givC_one c20 (by unfold hitF legOf; rw [if_pos rfl, G2.out]; simp [legO]) (by rw [G3.out]; decide)
    have S20 := hid (S12.out.call s20 k20)
    have N20 := hid (N12.out.leg k20)
    have lia := hid (infoLa lok)
    have liz := hid (zL_as lok)
    have lio := hid (all_oneCell_toArray (Lg.one lg))
    clear s20 k20 c20 S12 N12 I12 V12 lok
    go_upto_region 19 with (first | (with_reducible refine wpList_var lg.cells.toArray _ ZL lia liz lio rfl rfl ?_; intro w21 hI hb21))
    have S21 := hid (S20.out.below hb21)
    have N21 := hid (N20.out.below hb21)
    clear hI hb21 S20 N20
    go_wp2_with (fail)
    refine (eall_walk _ _ _ _ _ _ w21 S21.out.s.e).mono ?_
    rintro e w22 ⟨a2, c2, rfl, ⟨f22, fr22⟩, b22⟩
    have S22 := hid (S21.out.below b22)
    have N22 := hid (N21.out.below b22)
    obtain ⟨bb, oo, G', rfl, hG, rG, gok⟩ := f22.get (k := 0) Nat.zero_lt_one
    obtain rfl : G = G' := Option.some.inj hG
    have fr := fr22 bb rfl
    have NB := hid (show ¬ ShopS eb mb v10 bb from fun hh => by
      have h1 := S21.out.s.e.lt
      have h2 := S21.out.s.lt
      rcases hh with rfl | rfl | hh
      · omega
      · omega
      · have := (S21.out.s.e.own.lt _ hh).2
        omega)
    have NK := hid (show ¬ ShopS eb mb v10 K from fun hh => hh.elim N22.out.2.1 (fun hh => hh.elim N22.out.2.2.1 N22.out.2.2.2))
    have st := (Fw.hasSt gok).one rG
    rw [G3.out] at st
    have se := (Fw.hasSec gok).rng rG
    rw [G4.out] at se
    have ST := hid (show w22.cell? ⟨bb, oo + 203, none⟩ = some (.int .i64 1) from by simpa using st)
    have SE := hid (show w22.rangeAt bb (oo + 171) (nums .u8 (hbx nb)) from by simpa using se)
    have n22 := hid (row_range N22.out.1)
    have ew := eql_hv (xs := hbx nb) (ys := hbx nb) rfl rfl (hbx_ok HNB.out).2 (hbx_ok HNB.out).2
    have eg := guard_hv (hbx nb) (hbx nb)
    rw [decide_eq_true rfl] at ew
    unfold hv at ew eg
    clear f22 fr22 hG rG gok fr st se b22 S21 N21
    go_upto_region 20 with (fail)
    refine wp_region_held_drew (S := fun w' => Keep (ShopS eb mb v10) w22 w') (by kernel_rfl) (Keep.of ((Below.refl _ _).drew)) (fun hHeld => ?_)
    try simp only [List.size_toArray, List.length_cons, List.length_nil, Nat.reduceAdd, Array.replicate_succ, Array.replicate_zero, List.push_toArray, List.nil_append, List.cons_append]
    refine wpAnyH_take (i := 0) (oi := { dst := some 101, op := Op.move (Operand.tmp 16), type := 35, pos := "law.go:293", after := #[], guard := none }) (v := ?v2001) rfl (by kernel_rfl) (by kernel_rfl) (by kernel_rfl) (fun _ _ _ h => h) (Or.inl ⟨by rfl, ?hy2001⟩) hHeld ?_
    case hy2001 => (intro w hSw; (try dsimp only at hSw); go_simp; (try with_reducible rfl))
    (try simp only [Act.put, List.setIfInBounds_toArray, List.set_cons_zero, List.set_cons_succ])
    refine wpAnyH_take (i := 1) (oi := { dst := some 102, op := Op.binOp BinOp.eql 35 (Operand.tmp 101) (Operand.const (Value.int IntKind.i64 52)) 35, type := 4, pos := "law.go:293", after := #[{ on := 0, ground := Ground.data }], guard := none }) (v := ?v2002) rfl (by kernel_rfl) (by kernel_rfl) (by kernel_rfl) (fun _ _ _ h => h) (Or.inl ⟨by rfl, ?hy2002⟩) hHeld ?_
    case hy2002 => (intro w hSw; (try dsimp only at hSw); go_simp; (try with_reducible rfl))
    (try simp only [Act.put, List.setIfInBounds_toArray, List.set_cons_zero, List.set_cons_succ])
    refine wpAnyH_take (i := 2) (oi := { dst := some 103, op := Op.move (Operand.tmp 102), type := 4, pos := "law.go:293", after := #[{ on := 1, ground := Ground.data }], guard := none }) (v := ?v2003) rfl (by kernel_rfl) (by kernel_rfl) (by kernel_rfl) (fun _ _ _ h => h) (Or.inl ⟨by rfl, ?hy2003⟩) hHeld ?_
    case hy2003 => (intro w hSw; (try dsimp only at hSw); go_simp; (try with_reducible rfl))
    (try simp only [Act.put, List.setIfInBounds_toArray, List.set_cons_zero, List.set_cons_succ])
    refine wpAnyH_take (i := 3) (oi := { dst := some 104, op := Op.move (Operand.tmp 17), type := 51, pos := "law.go:293", after := #[{ on := 2, ground := Ground.guard }], guard := some (2, true) }) (v := ?v2004) rfl (by kernel_rfl) (by kernel_rfl) (by kernel_rfl) (fun _ _ _ h => h) (Or.inl ⟨by rfl, ?hy2004⟩) hHeld ?_
    case hy2004 => (intro w hSw; (try dsimp only at hSw); go_simp; (try with_reducible rfl))
    (try simp only [Act.put, List.setIfInBounds_toArray, List.set_cons_zero, List.set_cons_succ])
    refine wpAnyH_take (i := 4) (oi := { dst := some 105, op := Op.call { callee := Callee.builtin Builtin.len, args := #[Operand.tmp 104], argTypes := #[51] }, type := 3, pos := "law.go:293", after := #[{ on := 3, ground := Ground.data }, { on := 2, ground := Ground.guard }], guard := some (2, true) }) (v := .int .i64 1) rfl (by kernel_rfl) (by kernel_rfl) (by kernel_rfl) (fun _ _ _ h => h) (Or.inl ⟨by rfl, fun w h => by have hc := h; go_simp⟩) hHeld ?_
    (try simp only [Act.put, List.setIfInBounds_toArray, List.set_cons_zero, List.set_cons_succ])
    refine wpAnyH_take (i := 5) (oi := { dst := some 106, op := Op.binOp BinOp.eql 3 (Operand.tmp 105) (Operand.const (Value.int IntKind.i64 1)) 3, type := 4, pos := "law.go:293", after := #[{ on := 4, ground := Ground.data }, { on := 2, ground := Ground.guard }], guard := some (2, true) }) (v := ?v2005) rfl (by kernel_rfl) (by kernel_rfl) (by kernel_rfl) (fun _ _ _ h => h) (Or.inl ⟨by rfl, ?hy2005⟩) hHeld ?_
    case hy2005 => (intro w hSw; (try dsimp only at hSw); go_simp; (try with_reducible rfl))
    (try simp only [Act.put, List.setIfInBounds_toArray, List.set_cons_zero, List.set_cons_succ])
    refine wpAnyH_take (i := 6) (oi := { dst := some 107, op := Op.pick (Operand.tmp 103) (Operand.tmp 106) (Operand.const (Value.bool false)), type := 4, pos := "law.go:293", after := #[{ on := 2, ground := Ground.data }, { on := 5, ground := Ground.data }], guard := none }) (v := ?v2006) rfl (by kernel_rfl) (by kernel_rfl) (by kernel_rfl) (fun _ _ _ h => h) (Or.inl ⟨by rfl, ?hy2006⟩) hHeld ?_
    case hy2006 => (intro w hSw; (try dsimp only at hSw); go_simp; (try with_reducible rfl))
    (try simp only [Act.put, List.setIfInBounds_toArray, List.set_cons_zero, List.set_cons_succ])
    refine wpAnyH_take (i := 7) (oi := { dst := some 108, op := Op.move (Operand.tmp 107), type := 4, pos := "law.go:293", after := #[{ on := 6, ground := Ground.data }, { on := 2, ground := Ground.chain }], guard := none }) (v := ?v2007) rfl (by kernel_rfl) (by kernel_rfl) (by kernel_rfl) (fun _ _ _ h => h) (Or.inl ⟨by rfl, ?hy2007⟩) hHeld ?_
    case hy2007 => (intro w hSw; (try dsimp only at hSw); go_simp; (try with_reducible rfl))
    (try simp only [Act.put, List.setIfInBounds_toArray, List.set_cons_zero, List.set_cons_succ])
    refine wpAnyH_take (i := 8) (oi := { dst := some 109, op := Op.move (Operand.tmp 17), type := 51, pos := "law.go:293", after := #[{ on := 7, ground := Ground.guard }], guard := some (7, true) }) (v := ?v2008) rfl (by kernel_rfl) (by kernel_rfl) (by kernel_rfl) (fun _ _ _ h => h) (Or.inl ⟨by rfl, ?hy2008⟩) hHeld ?_
    case hy2008 => (intro w hSw; (try dsimp only at hSw); go_simp; (try with_reducible rfl))
    (try simp only [Act.put, List.setIfInBounds_toArray, List.set_cons_zero, List.set_cons_succ])
    refine wpAnyH_take (i := 9) (oi := { dst := some 110, op := Op.indexAddr 51 (Operand.tmp 109) (Operand.const (Value.int IntKind.i64 0)), type := 0, pos := "law.go:293", after := #[{ on := 8, ground := Ground.data }, { on := 7, ground := Ground.guard }], guard := some (7, true) }) (v := ?v2009) rfl (by kernel_rfl) (by kernel_rfl) (by kernel_rfl) (fun _ _ _ h => h) (Or.inl ⟨by rfl, ?hy2009⟩) hHeld ?_
    case hy2009 => (intro w hSw; (try dsimp only at hSw); go_simp; (try with_reducible rfl))
    (try simp only [Act.put, List.setIfInBounds_toArray, List.set_cons_zero, List.set_cons_succ])
    refine wpAnyH_take (i := 10) (oi := { dst := some 111, op := Op.fieldAddr 62 (Operand.tmp 110) 5, type := 0, pos := "law.go:293", after := #[{ on := 9, ground := Ground.data }, { on := 7, ground := Ground.guard }], guard := some (7, true) }) (v := ?v2010) rfl (by kernel_rfl) (by kernel_rfl) (by kernel_rfl) (fun _ _ _ h => h) (Or.inl ⟨by rfl, ?hy2010⟩) hHeld ?_
    case hy2010 => (intro w hSw; (try dsimp only at hSw); go_simp; (try with_reducible rfl))
    (try simp only [Act.put, List.setIfInBounds_toArray, List.set_cons_zero, List.set_cons_succ])
    refine wpAnyH_take (i := 11) (oi := { dst := some 112, op := Op.load 3 (Operand.tmp 111), type := 3, pos := "law.go:293", after := #[{ on := 10, ground := Ground.data }, { on := 7, ground := Ground.guard }], guard := some (7, true) }) (v := .int .i64 1) rfl (by kernel_rfl) (by kernel_rfl) (by kernel_rfl) (fun _ _ _ h => h) (Or.inl ⟨by rfl, fun w h => by have hc := h.cell ST.out NB.out; go_simp⟩) hHeld ?_
    (try simp only [Act.put, List.setIfInBounds_toArray, List.set_cons_zero, List.set_cons_succ])
    refine wpAnyH_take (i := 12) (oi := { dst := some 113, op := Op.binOp BinOp.eql 3 (Operand.tmp 112) (Operand.const (Value.int IntKind.i64 1)) 3, type := 4, pos := "law.go:293", after := #[{ on := 11, ground := Ground.data }, { on := 7, ground := Ground.guard }], guard := some (7, true) }) (v := ?v2011) rfl (by kernel_rfl) (by kernel_rfl) (by kernel_rfl) (fun _ _ _ h => h) (Or.inl ⟨by rfl, ?hy2011⟩) hHeld ?_
    case hy2011 => (intro w hSw; (try dsimp only at hSw); go_simp; (try with_reducible rfl))
    (try simp only [Act.put, List.setIfInBounds_toArray, List.set_cons_zero, List.set_cons_succ])
    refine wpAnyH_take (i := 13) (oi := { dst := some 114, op := Op.pick (Operand.tmp 108) (Operand.tmp 113) (Operand.const (Value.bool false)), type := 4, pos := "law.go:293", after := #[{ on := 7, ground := Ground.data }, { on := 12, ground := Ground.data }], guard := none }) (v := ?v2012) rfl (by kernel_rfl) (by kernel_rfl) (by kernel_rfl) (fun _ _ _ h => h) (Or.inl ⟨by rfl, ?hy2012⟩) hHeld ?_
    case hy2012 => (intro w hSw; (try dsimp only at hSw); go_simp; (try with_reducible rfl))
    (try simp only [Act.put, List.setIfInBounds_toArray, List.set_cons_zero, List.set_cons_succ])
    refine wpAnyH_take (i := 14) (oi := { dst := some 115, op := Op.move (Operand.tmp 114), type := 4, pos := "law.go:293", after := #[{ on := 13, ground := Ground.data }, { on := 7, ground := Ground.chain }], guard := none }) (v := ?v2013) rfl (by kernel_rfl) (by kernel_rfl) (by kernel_rfl) (fun _ _ _ h => h) (Or.inl ⟨by rfl, ?hy2013⟩) hHeld ?_
    case hy2013 => (intro w hSw; (try dsimp only at hSw); go_simp; (try with_reducible rfl))
    (try simp only [Act.put, List.setIfInBounds_toArray, List.set_cons_zero, List.set_cons_succ])
    refine wpAnyH_take (i := 15) (oi := { dst := some 116, op := Op.move (Operand.tmp 17), type := 51, pos := "law.go:293", after := #[{ on := 14, ground := Ground.guard }], guard := some (14, true) }) (v := ?v2014) rfl (by kernel_rfl) (by kernel_rfl) (by kernel_rfl) (fun _ _ _ h => h) (Or.inl ⟨by rfl, ?hy2014⟩) hHeld ?_
    case hy2014 => (intro w hSw; (try dsimp only at hSw); go_simp; (try with_reducible rfl))
    (try simp only [Act.put, List.setIfInBounds_toArray, List.set_cons_zero, List.set_cons_succ])
    refine wpAnyH_take (i := 16) (oi := { dst := some 117, op := Op.indexAddr 51 (Operand.tmp 116) (Operand.const (Value.int IntKind.i64 0)), type := 0, pos := "law.go:293", after := #[{ on := 15, ground := Ground.data }, { on := 14, ground := Ground.guard }], guard := some (14, true) }) (v := ?v2015) rfl (by kernel_rfl) (by kernel_rfl) (by kernel_rfl) (fun _ _ _ h => h) (Or.inl ⟨by rfl, ?hy2015⟩) hHeld ?_
    case hy2015 => (intro w hSw; (try dsimp only at hSw); go_simp; (try with_reducible rfl))
    (try simp only [Act.put, List.setIfInBounds_toArray, List.set_cons_zero, List.set_cons_succ])
    refine wpAnyH_take (i := 17) (oi := { dst := some 118, op := Op.fieldAddr 62 (Operand.tmp 117) 4, type := 0, pos := "law.go:293", after := #[{ on := 16, ground := Ground.data }, { on := 14, ground := Ground.guard }], guard := some (14, true) }) (v := ?v2016) rfl (by kernel_rfl) (by kernel_rfl) (by kernel_rfl) (fun _ _ _ h => h) (Or.inl ⟨by rfl, ?hy2016⟩) hHeld ?_
    case hy2016 => (intro w hSw; (try dsimp only at hSw); go_simp; (try with_reducible rfl))
    (try simp only [Act.put, List.setIfInBounds_toArray, List.set_cons_zero, List.set_cons_succ])
    refine' wpAnyH_take (i := 18) (oi := { dst := some 119, op := Op.load 27 (Operand.tmp 118), type := 27, pos := "law.go:293", after := #[{ on := 17, ground := Ground.data }, { on := 14, ground := Ground.guard }], guard := some (14, true) }) (v := _) rfl (by kernel_rfl) (by kernel_rfl) (by kernel_rfl) (fun _ _ _ h => h) (yieldsIf_load_mid (by rfl) _ _ rfl bb (oo + 171) rfl (nums .u8 (hbx nb)) _ (fun _ h => h.range SE.out NB.out) un rfl lbn.out) hHeld ?_
    (try simp only [Act.put, List.setIfInBounds_toArray, List.set_cons_zero, List.set_cons_succ])
    refine' wpAnyH_take (i := 19) (oi := { dst := some 120, op := Op.load 27 (Operand.tmp 7), type := 27, pos := "law.go:293", after := #[{ on := 14, ground := Ground.guard }], guard := some (14, true) }) (v := _) rfl (by kernel_rfl) (by kernel_rfl) (by kernel_rfl) (fun _ _ _ h => h) (yieldsIf_load_mid (by rfl) _ _ rfl K 0 rfl (nums .u8 (hbx nb)) _ (fun _ h => h.range n22.out NK.out) un rfl lbn.out) hHeld ?_
    (try simp only [Act.put, List.setIfInBounds_toArray, List.set_cons_zero, List.set_cons_succ])
    refine wpAnyH_take (i := 20) (oi := { dst := some 121, op := Op.binOp BinOp.eql 27 (Operand.tmp 119) (Operand.tmp 120) 27, type := 4, pos := "law.go:293", after := #[{ on := 18, ground := Ground.data }, { on := 19, ground := Ground.data }, { on := 14, ground := Ground.guard }], guard := some (14, true) }) (v := ?v2017) rfl (by kernel_rfl) (by kernel_rfl) (by kernel_rfl) (fun _ _ _ h => h) (Or.inl ⟨by rfl, ?hy2017⟩) hHeld ?_
    case hy2017 => (intro w hSw; (try dsimp only at hSw); go_simp; (try with_reducible rfl))
    (try simp only [Act.put, List.setIfInBounds_toArray, List.set_cons_zero, List.set_cons_succ])
    refine wpAnyH_take (i := 21) (oi := { dst := some 122, op := Op.pick (Operand.tmp 115) (Operand.tmp 121) (Operand.const (Value.bool false)), type := 4, pos := "law.go:293", after := #[{ on := 14, ground := Ground.data }, { on := 20, ground := Ground.data }], guard := none }) (v := ?v2018) rfl (by kernel_rfl) (by kernel_rfl) (by kernel_rfl) (fun _ _ _ h => h) (Or.inl ⟨by rfl, ?hy2018⟩) hHeld ?_
    case hy2018 => (intro w hSw; (try dsimp only at hSw); go_simp; (try with_reducible rfl))
    (try simp only [Act.put, List.setIfInBounds_toArray, List.set_cons_zero, List.set_cons_succ])
    refine wpAnyH_take (i := 22) (oi := { dst := some 123, op := Op.move (Operand.tmp 122), type := 4, pos := "law.go:293", after := #[{ on := 21, ground := Ground.data }, { on := 14, ground := Ground.chain }], guard := none }) (v := ?v2019) rfl (by kernel_rfl) (by kernel_rfl) (by kernel_rfl) (fun _ _ _ h => h) (Or.inl ⟨by rfl, ?hy2019⟩) hHeld ?_
    case hy2019 => (intro w hSw; (try dsimp only at hSw); go_simp; (try with_reducible rfl))
    (try simp only [Act.put, List.setIfInBounds_toArray, List.set_cons_zero, List.set_cons_succ])
    refine wpAnyH_take (i := 23) (oi := { dst := some 124, op := Op.move (Operand.tmp 9), type := 34, pos := "law.go:293", after := #[{ on := 22, ground := Ground.guard }], guard := some (22, true) }) (v := ?v2020) rfl (by kernel_rfl) (by kernel_rfl) (by kernel_rfl) (fun _ _ _ h => h) (Or.inl ⟨by rfl, ?hy2020⟩) hHeld ?_
    case hy2020 => (intro w hSw; (try dsimp only at hSw); go_simp; (try with_reducible rfl))
    (try simp only [Act.put, List.setIfInBounds_toArray, List.set_cons_zero, List.set_cons_succ])
    refine wpAnyH_take (i := 24) (oi := { dst := some 125, op := Op.move (Operand.tmp 0), type := 3, pos := "law.go:293", after := #[{ on := 22, ground := Ground.guard }], guard := some (22, true) }) (v := ?v2021) rfl (by kernel_rfl) (by kernel_rfl) (by kernel_rfl) (fun _ _ _ h => h) (Or.inl ⟨by rfl, ?hy2021⟩) hHeld ?_
    case hy2021 => (intro w hSw; (try dsimp only at hSw); go_simp; (try with_reducible rfl))
    (try simp only [Act.put, List.setIfInBounds_toArray, List.set_cons_zero, List.set_cons_succ])
    refine wpAnyH_ready (rs := [25]) (by kernel_rfl) (by simp) ?_
    refine AllReadyH.cons (o := { dst := some 126, op := Op.call { callee := Callee.value (Operand.func 17), args := #[Operand.tmp 124, Operand.const (Value.int IntKind.i64 1), Operand.tmp 125], argTypes := #[34, 3, 3] }, type := 35, pos := "law.go:293", after := #[{ on := 23, ground := Ground.data }, { on := 24, ground := Ground.data }, { on := 22, ground := Ground.chain }, { on := 22, ground := Ground.guard }], guard := some (22, true) }) rfl (fun K hK => ?_) ?_
    go_simp; refine (close_walk eb tb mb 3 B v10 [G] _ 1 1 n _ (S22.out.below ((Below.refl _ _).drew)).s).mono ?_; rintro e wc ⟨k, L', vc, rfl, sc, kc, yc, cc⟩; obtain ⟨rfl, rfl⟩ := cloC_shut cc (by unfold hitF legOf; rw [if_neg (by decide), G1.out]; simp [legI]) (by rw [G3.out]; decide); have SC := hid sc; have KC := hid kc; clear sc kc yc cc
    refine hK.out _ _ (hHeld.trans KC.out) (fun hHeld => ?_)
    clear hK K
    (try simp only [List.setIfInBounds_toArray, List.set_cons_zero, List.set_cons_succ])
    refine wpAnyH_take (i := 26) (oi := { dst := some 127, op := Op.binOp BinOp.eql 35 (Operand.tmp 126) (Operand.const (Value.int IntKind.i64 0)) 35, type := 4, pos := "law.go:293", after := #[{ on := 25, ground := Ground.data }, { on := 22, ground := Ground.guard }], guard := some (22, true) }) (v := ?v2022) rfl (by kernel_rfl) (by kernel_rfl) (by kernel_rfl) (fun _ _ _ h => h) (Or.inl ⟨by rfl, ?hy2022⟩) hHeld ?_
    case hy2022 => (intro w hSw; (try dsimp only at hSw); go_simp; (try with_reducible rfl))
    (try simp only [Act.put, List.setIfInBounds_toArray, List.set_cons_zero, List.set_cons_succ])
    refine wpAnyH_take (i := 27) (oi := { dst := some 128, op := Op.pick (Operand.tmp 123) (Operand.tmp 127) (Operand.const (Value.bool false)), type := 4, pos := "law.go:293", after := #[{ on := 22, ground := Ground.data }, { on := 26, ground := Ground.data }], guard := none }) (v := ?v2023) rfl (by kernel_rfl) (by kernel_rfl) (by kernel_rfl) (fun _ _ _ h => h) (Or.inl ⟨by rfl, ?hy2023⟩) hHeld ?_
    case hy2023 => (intro w hSw; (try dsimp only at hSw); go_simp; (try with_reducible rfl))
    (try simp only [Act.put, List.setIfInBounds_toArray, List.set_cons_zero, List.set_cons_succ])
    refine wpAnyH_take (i := 28) (oi := { dst := some 129, op := Op.move (Operand.tmp 128), type := 4, pos := "law.go:293", after := #[{ on := 27, ground := Ground.data }, { on := 25, ground := Ground.chain }], guard := none }) (v := ?v2024) rfl (by kernel_rfl) (by kernel_rfl) (by kernel_rfl) (fun _ _ _ h => h) (Or.inl ⟨by rfl, ?hy2024⟩) hHeld ?_
    case hy2024 => (intro w hSw; (try dsimp only at hSw); go_simp; (try with_reducible rfl))
    (try simp only [Act.put, List.setIfInBounds_toArray, List.set_cons_zero, List.set_cons_succ])
    refine wpAnyH_take (i := 29) (oi := { dst := some 130, op := Op.move (Operand.tmp 9), type := 34, pos := "law.go:293", after := #[{ on := 28, ground := Ground.guard }], guard := some (28, true) }) (v := ?v2025) rfl (by kernel_rfl) (by kernel_rfl) (by kernel_rfl) (fun _ _ _ h => h) (Or.inl ⟨by rfl, ?hy2025⟩) hHeld ?_
    case hy2025 => (intro w hSw; (try dsimp only at hSw); go_simp; (try with_reducible rfl))
    (try simp only [Act.put, List.setIfInBounds_toArray, List.set_cons_zero, List.set_cons_succ])
    refine wpAnyH_ready (rs := [30]) (by kernel_rfl) (by simp) ?_
    refine AllReadyH.cons (o := { dst := some 131, op := Op.call { callee := Callee.value (Operand.func 15), args := #[Operand.tmp 130], argTypes := #[34] }, type := 51, pos := "law.go:293", after := #[{ on := 29, ground := Ground.data }, { on := 28, ground := Ground.chain }, { on := 28, ground := Ground.guard }], guard := some (28, true) }) rfl (fun K hK => ?_) ?_
    go_simp; refine (eall_walk _ _ _ _ _ _ wc SC.out.e).mono ?_; rintro e we ⟨a3, c3, rfl, -, b3⟩; have B3 := hid b3; clear b3
    refine hK.out _ _ (hHeld.trans (Keep.of B3.out)) (fun hHeld => ?_)
    clear hK K
    (try simp only [List.setIfInBounds_toArray, List.set_cons_zero, List.set_cons_succ])
    refine wpAnyH_take (i := 31) (oi := { dst := some 132, op := Op.call { callee := Callee.builtin Builtin.len, args := #[Operand.tmp 131], argTypes := #[51] }, type := 3, pos := "law.go:293", after := #[{ on := 30, ground := Ground.data }, { on := 28, ground := Ground.guard }], guard := some (28, true) }) (v := .int .i64 0) rfl (by kernel_rfl) (by kernel_rfl) (by kernel_rfl) (fun _ _ _ h => h) (Or.inl ⟨by rfl, fun w h => by have hc := h; go_simp⟩) hHeld ?_
    (try simp only [Act.put, List.setIfInBounds_toArray, List.set_cons_zero, List.set_cons_succ])
    refine wpAnyH_take (i := 32) (oi := { dst := some 133, op := Op.binOp BinOp.eql 3 (Operand.tmp 132) (Operand.const (Value.int IntKind.i64 0)) 3, type := 4, pos := "law.go:293", after := #[{ on := 31, ground := Ground.data }, { on := 28, ground := Ground.guard }], guard := some (28, true) }) (v := ?v2026) rfl (by kernel_rfl) (by kernel_rfl) (by kernel_rfl) (fun _ _ _ h => h) (Or.inl ⟨by rfl, ?hy2026⟩) hHeld ?_
    case hy2026 => (intro w hSw; (try dsimp only at hSw); go_simp; (try with_reducible rfl))
    (try simp only [Act.put, List.setIfInBounds_toArray, List.set_cons_zero, List.set_cons_succ])
    refine wpAnyH_take (i := 33) (oi := { dst := some 134, op := Op.pick (Operand.tmp 129) (Operand.tmp 133) (Operand.const (Value.bool false)), type := 4, pos := "law.go:293", after := #[{ on := 28, ground := Ground.data }, { on := 32, ground := Ground.data }], guard := none }) (v := ?v2027) rfl (by kernel_rfl) (by kernel_rfl) (by kernel_rfl) (fun _ _ _ h => h) (Or.inl ⟨by rfl, ?hy2027⟩) hHeld ?_
    case hy2027 => (intro w hSw; (try dsimp only at hSw); go_simp; (try with_reducible rfl))
    (try simp only [Act.put, List.setIfInBounds_toArray, List.set_cons_zero, List.set_cons_succ])
    refine wpAnyH_take (i := 34) (oi := { dst := some 6, op := Op.assign (Operand.tmp 134), type := 4, pos := "law.go:293", after := #[{ on := 33, ground := Ground.data }, { on := 30, ground := Ground.chain }, { on := 0, ground := Ground.phase }, { on := 1, ground := Ground.phase }, { on := 2, ground := Ground.phase }, { on := 3, ground := Ground.phase }, { on := 4, ground := Ground.phase }, { on := 5, ground := Ground.phase }, { on := 6, ground := Ground.phase }, { on := 7, ground := Ground.phase }, { on := 8, ground := Ground.phase }, { on := 9, ground := Ground.phase }, { on := 10, ground := Ground.phase }, { on := 11, ground := Ground.phase }, { on := 12, ground := Ground.phase }, { on := 13, ground := Ground.phase }, { on := 14, ground := Ground.phase }, { on := 15, ground := Ground.phase }, { on := 16, ground := Ground.phase }, { on := 17, ground := Ground.phase }, { on := 18, ground := Ground.phase }, { on := 19, ground := Ground.phase }, { on := 20, ground := Ground.phase }, { on := 21, ground := Ground.phase }, { on := 22, ground := Ground.phase }, { on := 23, ground := Ground.phase }, { on := 24, ground := Ground.phase }, { on := 25, ground := Ground.phase }, { on := 26, ground := Ground.phase }, { on := 27, ground := Ground.phase }, { on := 28, ground := Ground.phase }, { on := 29, ground := Ground.phase }, { on := 30, ground := Ground.phase }, { on := 31, ground := Ground.phase }, { on := 32, ground := Ground.phase }, { on := 33, ground := Ground.phase }], guard := none }) (v := ?v2028) rfl (by kernel_rfl) (by kernel_rfl) (by kernel_rfl) (fun _ _ _ h => h) (Or.inl ⟨by rfl, ?hy2028⟩) hHeld ?_
    case hy2028 => (intro w hSw; (try dsimp only at hSw); go_simp; (try with_reducible rfl))
    (try simp only [Act.put, List.setIfInBounds_toArray, List.set_cons_zero, List.set_cons_succ])
    refine wpAnyH_done (by kernel_rfl) ?_ _
    rotate_left
    exact AllReadyH.nil
    exact AllReadyH.nil
    all_goals
      go_wp2
      go_ret
      exact ⟨rfl, S22.out.keep hHeld⟩
end Go.Proofs.YthccjefhlmngbaaDoor

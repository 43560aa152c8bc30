/- The walk of the statement EdgeFull. -/
import Derived.Test.YthccjefhlmngbaaDoorUsp
namespace Go.Proofs.YthccjefhlmngbaaDoor
open Go.RowKit

theorem hz32_eh : EH.ok hz32 := ⟨hz32_ok.1, hz32_ok.2⟩
set_option maxRecDepth 100000 in
set_option maxHeartbeats 4000000 in
/-- one more is handed on -/
theorem full1_walk (i : Int) (hi : (Lit.int .i64 i).wf = true) (cb eb tb mb B : Nat) (v : Value) (L : List Fw) (M : QM) (n : Nat) (w : World) (hS : Shop w eb tb mb 0 B v L M n) (hc : w.cell? ⟨cb, 0, none⟩ = some (.pointer (some ⟨eb, 0, none⟩))) :
    Calls Tryd.prog 16 #[.int .i64 i, .pointer (some ⟨cb, 0, none⟩)] w
      (HandRes w eb tb mb 0 B v L M n (handC (legI i 1 hz32) (legO i 1 hz32 50) (hbx 0) 9 0 L M) (newF (legI i 1 hz32) (legO i 1 hz32 50) (hbx 0)) (hbx 0) (handU M (legI i 1 hz32) (legO i 1 hz32 50) (hbx 0) 9).1) := by
  have HS := hid hS
  have iok := hid (legI_ok hi (by decide : (1 : Nat) < 18446744073709551616) hz32_eh)
  have ook := hid (legO_ok (til := 50) hi (by decide : (1 : Nat) < 18446744073709551616) hz32_eh (by decide))
  have bH9 := bh9
  have bZ := bh0
  have bI : Tryd.prog.built 40 [(0, .int .i64 i), (2, .agg (nums .u8 (hbx 9)).toArray), (3, .int .u64 1), (5, .int .i64 50)] = some (legI i 1 hz32).o.cells.toArray := bofrE (hbx 9) rfl 1 i 50
  have bI2 : Tryd.prog.built 42 [(0, .int .i64 1), (1, .agg (legI i 1 hz32).o.cells.toArray)] = some (legI i 1 hz32).cells.toArray := bleg 1 (legI i 1 hz32).o rfl rfl
  have bO : Tryd.prog.built 40 [(0, .int .i64 i), (3, .int .u64 1), (5, .int .i64 50)] = some (legO i 1 hz32 50).o.cells.toArray := bofrF 1 i 50
  have bO2 : Tryd.prog.built 42 [(0, .int .i64 2), (1, .agg (legO i 1 hz32 50).o.cells.toArray)] = some (legO i 1 hz32 50).cells.toArray := bleg 2 (legO i 1 hz32 50).o rfl rfl
  clear hS hi
  go_enter Tryd.func16, Tryd.ntmps16
  go_wp2_with (first | with_reducible refine wpList_mk1 bH9 rfl ?_ | with_reducible refine wpList_mk4 bI rfl rfl rfl rfl ?_ | with_reducible refine wpList_mk2 bI2 rfl rfl ?_ | with_reducible refine wpList_mk3 bO rfl rfl rfl ?_ | with_reducible refine wpList_mk2 bO2 rfl rfl ?_ | with_reducible refine wpList_mk0 bZ ?_)
  refine (hand_walk eb tb mb 0 B v L M n (legI i 1 hz32) (legO i 1 hz32 50) iok.out ook.out (hbx 0) (hbx_ok (by decide)) 9 w HS.out).mono ?_
  rintro e w2 ⟨rfl, h⟩
  have HH := hid h
  clear h
  go_wp2
  go_ret
  exact ⟨rfl, HH.out⟩
/-- what a round finds -/
def FulI (w0 w : World) (eb tb mb B CB : Nat) (k : Nat) : Prop :=
  ∃ v M, Ses w0.heap.size w0 w eb tb mb 0 B v (fulL k) M 1 ∧ M (hbx 0) = some (hqp 1099511627776 k) ∧ Held w eb mb v CB (.cells #[.pointer (some ⟨eb, 0, none⟩)] 34 (0, 0))
theorem held_ptr {w : World} {eb mb CB : Nat} {v : Value} {T : TypeId} (h : Held w eb mb v CB (.cells #[.pointer (some ⟨eb, 0, none⟩)] T (0, 0))) : w.cell? ⟨CB, 0, none⟩ = some (.pointer (some ⟨eb, 0, none⟩)) :=
  gen_cell (j := 0) (row_range (L := [.pointer (some ⟨eb, 0, none⟩)]) h.1) rfl
set_option maxRecDepth 100000 in
set_option maxHeartbeats 8000000 in
theorem lawFull (n : Int) (_hn : (Lit.int .i64 n).wf = true) (w : World) (ht : Tabs w) :
    Calls Tryd.prog 4 #[.int .i64 n] w fun e w' => e = .returned (.bool true) ∧ Below w.heap.size w w' := by
  have HT := hid ht
  have un := Tryd.underlying27
  have unL := Tryd.underlying42
  clear ht
  go_enter Tryd.func4, Tryd.ntmps4
  go_wp2_with (fail)
  refine (ehead_walk w HT.out).mono ?_
  rintro e w1 ⟨rfl, b1⟩
  have B1 := hid b1
  clear b1
  go_upto_region 3 with (fail)
  have qok := hid (qd1_ok (m := 1099511627776) (by decide))
  have bq : Tryd.prog.built 32 [(0, .agg (nums .u8 (hbx 9)).toArray), (2, .int .u64 1099511627776), (3, .agg #[.int .u64 1, .int .u64 1]), (4, .int .i64 40)] = some (qd1 1099511627776).cells.toArray := bqd1 1099511627776
  have bR := bR11
  have bH9 := bh9
  go_wp2_with (first | with_reducible refine wpList_mk1 bH9 rfl ?_ | with_reducible refine wpList_mk2 bR rfl rfl ?_ | with_reducible refine wpList_mk4 bq rfl rfl rfl rfl ?_ | with_reducible refine wpList_qlit qok rfl ?_)
  refine (quotes_walk _ 1 1 [qd1 1099511627776] (by decide) _ (qds_one qok.out (heap_alloc_new w1 _))).mono ?_
  rintro e w3 ⟨tb, mb, rfl, t3, l1, l2, b3⟩
  obtain ⟨M0, eM, hM⟩ := quS_one (m := 1099511627776) (by decide)
  rw [show quS 0 [qd1 1099511627776] (fun _ => none) 0 = (M0, 1) from eM] at t3
  have T3 := hid (show TabAt w3 tb mb M0 1 from t3)
  have BA := (Below.refl w1.heap.size w1).alloc (Nat.le_refl _) (.cells (qd1 1099511627776).cells.toArray 32)
  have BB := hid (BA.trans (b3.mono BA.size))
  have L2 := hid (Nat.le_trans BA.size l2)
  have HM := hid hM
  have B3 := hid (bstep B1.out BB.out)
  have LW := hid (show w.heap.size ≤ w1.heap.size from B1.out.size)
  clear t3 l1 l2 b3 BA eM hM bq
  go_wp2_with (fail)
  refine (enew_walk 0 (by decide) (by decide) tb mb 1 M0 w3 T3.out).mono ?_
  rintro e w4 ⟨rfl, s4, b4, z4⟩
  have S4 := hid (show Ses w.heap.size w w4 w3.heap.size tb mb 0 w4.heap.size (.slice none 0 0) [] M0 1 from ⟨s4, bstep B3.out b4, by have := B3.out.size; have := L2.out; have := LW.out; have := b4.size; omega⟩)
  generalize w3.heap.size = eb at *
  generalize w4.heap.size = B at *
  clear s4 b4 z4 B3 BB LW L2 T3
  have ZL := zeroL
  go_upto_region 5 with (fail)
  have N5 := heap_alloc_new w4 (.cells #[.pointer (some ⟨eb, 0, none⟩)] 34)
  have b5 := (Below.refl w4.heap.size w4).alloc (Nat.le_refl _) (.cells #[.pointer (some ⟨eb, 0, none⟩)] 34)
  have S5 := hid (S4.out.below b5)
  have C5 := hid (Held.new S4.out N5 (Nat.le_refl _))
  obtain ⟨CB, hCB⟩ : ∃ CB, CB = w4.heap.size := ⟨_, rfl⟩
  rw [← hCB] at C5 ⊢
  have BC := hid (show B ≤ CB from by rw [hCB]; exact S4.out.s.lt.2.2)
  generalize w4.alloc (.cells #[.pointer (some ⟨eb, 0, none⟩)] 34) = w5 at *
  have hmf : ∀ (fn : Fn) (first cap : Array Value) (w : World), (Instr.makeFunc fn first cap).run Tryd.prog w = .ok (.func fn first cap) w := fun _ _ _ _ => rfl
  clear N5 b5 hCB S4
  go_upto_region 9 with (fail)
  go_loopw [7] (fun x7 wr => ∃ k : Nat, k ≤ 256 ∧ x7 = .int .i64 (k : Int) ∧ FulI w wr eb tb mb B CB k) (fun x7 _ => 256 - (intOf x7).toNat)
  case atStart => exact ⟨0, by omega, rfl, _, M0, S5.out, HM.out, C5.out⟩
  case round =>
    obtain ⟨k, hk, rfl, v, M, hS, hM, hC⟩ := hrel
    have S6 := hid hS
    have C6 := hid hC
    have HM6 := hid hM
    clear hS hM hC S5 C5 HM
    by_cases hlt : k < 256
    · have t1 : decide (k < 256) = true := decide_eq_true hlt
      have t2 : decide ((k : Int) < 256) = true := decide_eq_true (by omega)
      have KW := hid (show (Lit.int .i64 (k : Int)).wf = true from i64_wf (by omega) (by omega))
      have LT := hid hlt
      clear hlt hk
      go_wp2_with (fail)
      refine (full1_walk k KW.out CB eb tb mb B v (fulL k) M 1 wr S6.out.s (held_ptr C6.out)).mono ?_
      rintro e w7 ⟨rfl, v1, s7, k7, y7⟩
      have hu : handU M (legI k 1 hz32) (legO k 1 hz32 50) (hbx 0) 9 = (hqp 1099511627776 (k + 1), 0) := handU_11 HM6.out (by have := LT.out; omega) (by decide) (by decide)
      rw [show handC (legI k 1 hz32) (legO k 1 hz32 50) (hbx 0) 9 0 (fulL k) M = 0 from handC_11 HM6.out (by have := LT.out; omega) (by decide) (by decide) (by decide) (by decide) (by decide) (by rw [fulL_len]; exact LT.out) (fulL_low k).any.1 (fulL_low k).any.2] at s7 ⊢
      rw [hu] at s7
      have S7 := hid (S6.out.call (show Shop w7 eb tb mb 0 B v1 (fulL (k + 1)) (updM M (hbx 0) (hqp 1099511627776 (k + 1))) 1 from by rw [fulL_succ]; exact s7) k7)
      have C7 := hid (C6.out.call k7 y7)
      have lt32 : k < 4294967296 := by have := LT.out; omega
      clear s7 k7 y7 hu S6 C6
      go_upto_region 10 with (fail)
      go_wp2_with (fail)
      go_roundw
      case rel => exact ⟨k + 1, by have := LT.out; omega, by go_num, _, _, S7.out, by unfold updM; rw [if_pos rfl], C7.out⟩
      case measure => simp [intOf]; have := LT.out; omega
    · have KK := hid (show k = 256 from by omega)
      have t1 : decide (k < 256) = false := decide_eq_false (by omega)
      have t2 : decide ((k : Int) < 256) = false := decide_eq_false (by omega)
      obtain ⟨m, hm, rn⟩ := and255 n
      have MM := hid hm
      have MW := hid (show (Lit.int .i64 (m : Int)).wf = true from i64_wf (by omega) (by omega))
      have hcp := held_ptr C6.out
      clear hlt hk hm
      go_wp2_with (fail)
      rw [KK.out] at S6
      refine (given_walk eb tb mb 0 B v (fulL 256) M 1 2 m wr S6.out.s).mono ?_
      rintro e w7 ⟨lg, kc, L', M', rfl, s7, k7, c7, lok⟩
      obtain ⟨rfl, rfl, hM'⟩ := givC_full MM.out c7
      have S7 := hid (S6.out.call s7 k7)
      have C7 := hid (C6.out.leg k7)
      have M7 := hid (show M' (hbx 0) = some (hqp 1099511627776 255) from by
        rw [hM', HM6.out, KK.out, show (256 : Nat) = 255 + 1 from rfl, undo_11]
        unfold resM
        rw [if_pos rfl]
        unfold updM
        rw [if_pos rfl])
      have lia := hid (infoLa lok)
      have liz := hid (zL_as lok)
      have lio := hid (all_oneCell_toArray (Lg.one lg))
      clear s7 k7 c7 lok hM' S6 C6 hcp
      go_upto_region 15 with (first | (with_reducible refine wpList_var lg.cells.toArray _ ZL lia liz lio rfl rfl ?_; intro w8 hI hb8))
      have S8 := hid (S7.out.below hb8)
      have C8 := hid (C7.out.below hb8)
      clear hI hb8 S7 C7
      go_wp2_with (fail)
      refine (full1_walk 256 (by decide) CB eb tb mb B v (giv1 m) M' 1 w8 S8.out.s (held_ptr C8.out)).mono ?_
      rintro e w9 ⟨rfl, v9, s9, k9, y9⟩
      rw [show handC (legI 256 1 hz32) (legO 256 1 hz32 50) (hbx 0) 9 0 (giv1 m) M' = 4 from handC_full (n := 256) (by decide) (by decide) (giv1_low MM.out) (by rw [giv1_len]; exact Nat.le_refl _)] at s9 ⊢
      have S9 := hid (S8.out.call (show Shop w9 eb tb mb 0 B v9 (giv1 m) M' 1 from s9) k9)
      have C9 := hid (C8.out.call k9 y9)
      clear s9 k9 y9 S8 C8
      go_wp2_with (fail)
      refine (full1_walk m MW.out CB eb tb mb B v9 (giv1 m) M' 1 w9 S9.out.s (held_ptr C9.out)).mono ?_
      rintro e w10 ⟨rfl, v10, s10, k10, y10⟩
      rw [show handC (legI m 1 hz32) (legO m 1 hz32 50) (hbx 0) 9 0 (giv1 m) M' = 6 from handC_have (by decide) (by decide) (List.mem_of_getElem? (giv1_get MM.out)) (by rw [hit_in, decide_eq_true rfl])] at s10 ⊢
      have S10 := hid (S9.out.call (show Shop w10 eb tb mb 0 B v10 (giv1 m) M' 1 from s10) k10)
      have C10 := hid (C9.out.call k10 y10)
      clear s10 k10 y10 S9 C9
      go_wp2_with (fail)
      refine (full1_walk 256 (by decide) CB eb tb mb B v10 (giv1 m) M' 1 w10 S10.out.s (held_ptr C10.out)).mono ?_
      rintro e w11 ⟨rfl, v11, s11, k11, y11⟩
      rw [show handC (legI 256 1 hz32) (legO 256 1 hz32 50) (hbx 0) 9 0 (giv1 m) M' = 4 from handC_full (n := 256) (by decide) (by decide) (giv1_low MM.out) (by rw [giv1_len]; exact Nat.le_refl _)] at s11 ⊢
      have S11 := hid (S10.out.call (show Shop w11 eb tb mb 0 B v11 (giv1 m) M' 1 from s11) k11)
      have C11 := hid (C10.out.call k11 y11)
      have hcp := held_ptr C11.out
      clear s11 k11 y11 S10 C10
      go_wp2_with (fail)
      refine (close_walk eb tb mb 0 B v11 (giv1 m) M' 1 1 m w11 S11.out.s).mono ?_
      rintro e w12 ⟨kc, L', v12, rfl, s12, k12, y12, c12⟩
      obtain ⟨rfl, rfl⟩ := cloC_full MM.out c12
      have S12 := hid (S11.out.call s12 k12)
      have C12 := hid (C11.out.call k12 y12)
      clear s12 k12 y12 c12 S11 C11 hcp
      go_wp2_with (fail)
      refine (full1_walk 256 (by decide) CB eb tb mb B v12 ((giv1 m).eraseIdx m) M' 1 w12 S12.out.s (held_ptr C12.out)).mono ?_
      rintro e w13 ⟨rfl, v13, s13, k13, y13⟩
      rw [show handC (legI 256 1 hz32) (legO 256 1 hz32 50) (hbx 0) 9 0 ((giv1 m).eraseIdx m) M' = 0 from handC_11 M7.out (by decide) (by decide) (by decide) (by decide) (by decide) (by decide) (by rw [erase_len MM.out]; decide) ((giv1_low MM.out).erase m).any.1 ((giv1_low MM.out).erase m).any.2] at s13 ⊢
      have B13 := hid (S12.out.keep k13)
      clear s13 k13 y13 S12 C12
      go_wp2
      go_ret
      exact ⟨rfl, B13.out⟩
end Go.Proofs.YthccjefhlmngbaaDoor

/- The walk of chapter 16's head. -/
import Derived.Test.YtnfklnbdebcpiaaDoorSech
namespace Go.Proofs.YtnfklnbdebcpiaaDoor
open Go.RowKit

theorem run_build_ch (w : World) : (Instr.build 47 #[]).run Tryd.prog w = .ok (.agg zc47) w := run_build w _ #[] _ built_ch
theorem infoHlz : (Tryd.prog.info? 23).map (·.size) = some (nums .u8 zero32).length := by kernel_rfl
theorem hzZ (z : Array Value) (hz : z.size = 32) : z.size = (nums .u8 zero32).toArray.size := by rw [hz]; rfl
def firstV (s : List Nat) (i : Nat) : List Nat := if i = 0 then zero32 else secA s 281474976710655
theorem firstV_pos (s : List Nat) {i : Nat} (h : i ≠ 0) : firstV s i = secA s 281474976710655 := by unfold firstV; rw [if_neg h]
theorem firstV_ok {s : List Nat} (h : H32 s) (i : Nat) : H32 (firstV s i) := by unfold firstV; split; exact zero32_ok; exact secA_ok h _
set_option maxRecDepth 100000 in
set_option maxHeartbeats 8000000 in
theorem sechead_walk (w : World) (ht : Tabs w) (h6 : Tab64 w) : Calls Tryd.prog 8 #[] w fun e w' => e = .returned (.bool true) ∧ Below w.heap.size w w' := by
  have HT := hid ht
  have H6 := hid h6
  have unH := Tryd.underlying23
  have ch0 : ChAt (w.alloc (.cells zc47 47)) w.heap.size noneK 0 := ⟨⟨_, heap_alloc_new w _, zch⟩⟩
  have b0 := (Below.refl w.heap.size w).alloc (Nat.le_refl _) (.cells zc47 47)
  have zr := zv47
  have zn := zn47
  clear ht h6
  go_enter Tryd.func8, Tryd.ntmps8
  go_upto_region 2 with (fail)
  generalize w.alloc (.cells zc47 47) = w1 at *
  have HC1 := hid ch0
  have B1 := hid b0
  have hcl := ch0.lt
  clear ch0 b0
  go_upto_region 3 with (refine wpList_store_row rfl _ _ _ rfl w1.heap.size (nums .u8 zero32).toArray rfl rfl _ _ (heap_alloc_new w1 _) infoHaZ (hzZ _ rfl) oneZ ?_)
  have LA := fun z => laid w1 z (nums .u8 zero32).toArray 23
  generalize hW : World.setRow _ _ _ = w2
  replace LA := hid (hW ▸ LA _)
  have HC2 := hid (HC1.out.below LA.out.2)
  have B2 := hid (B1.out.trans (LA.out.2.mono B1.out.size))
  have HF2 := hid LA.out.1
  clear hW LA HC1
  generalize hF : w1.heap.size = F at *
  generalize hcb : w.heap.size = cb at *
  have hcF : cb ≠ F := by omega
  have hFc : cb ≤ F := by omega
  clear hF
  go_wp2
  go_loopw [3] (fun x3 wr => ∃ i : Nat, i ≤ 3 ∧ x3 = .int .u64 i ∧ ChAt wr cb (Kh h5x i) i ∧ wr.heap[F]? = some (.cells (nums .u8 (firstV h5x i)).toArray 23 (0, 0)) ∧ Below cb w wr) (fun x3 _ => 3 - (intOf x3).toNat)
  case atStart => exact ⟨0, by omega, rfl, HC2.out, HF2.out, B2.out⟩
  case round =>
    obtain ⟨i, hi, rfl, hch, hf, hb⟩ := hrel
    have HC := hid hch
    have HF := hid hf
    have HB := hid hb
    clear hch hf hb HC2 HF2 B2
    by_cases hlt : i < 3
    · obtain ⟨p, hp⟩ : ∃ p : Nat, p = 281474976710655 - i := ⟨_, rfl⟩
      have ep : 281474976710655 - (i : Int) = (p : Int) := by omega
      have hp48 : p < 281474976710656 := by omega
      have HP := hid hp
      clear hp
      go_wp2_with fail
      refine (at_walk h5x p h5_ok hp48 _ (HT.out.below (hcb ▸ HB.out))).mono ?_
      rintro e w3 ⟨rfl, b3⟩
      have hSo := hid (secA_ok h5_ok p)
      have hSe : leadN p 48 h5x = secA h5x p := rfl
      rw [hSe]
      have HC3 := hid (HC.out.below b3)
      have HF3 := hid (heap_keep HF.out b3)
      have hcw : cb ≤ wr.heap.size := by have := HC.out.lt; omega
      have HB3 := hid (HB.out.trans (b3.mono hcw))
      have hcw3 : cb < w3.heap.size := HC3.out.lt
      have hFw3 := (Array.getElem?_eq_some_iff.1 HF3.out).1
      clear b3 hSe HC HF HB hcw
      obtain ⟨S, hS⟩ : ∃ S, S = secA h5x p := ⟨_, rfl⟩
      rw [← hS] at hSo ⊢
      have HS := hid hS
      have hiS := hid (infoHl' hSo.out)
      have hiSa := hid (infoHa hSo.out)
      have hzS : ∀ z : Array Value, z.size = 32 → z.size = (nums .u8 S).toArray.size := fun z hz => by rw [hz, List.size_toArray, nums_length, hSo.out.1]
      have hoS := hid (all_oneCell_toArray (nums_oneCell .u8 S))
      clear hS
      unfold hv
      go_upto_region 7 with (refine wpList_store_row rfl _ _ _ rfl w3.heap.size (nums .u8 S).toArray rfl rfl _ _ (heap_alloc_new w3 _) hiSa.out (hzS _ rfl) hoS.out ?_)
      have LA := fun z => laid w3 z (nums .u8 S).toArray 23
      generalize hW : World.setRow _ _ _ = w4
      replace LA := hid (hW ▸ LA _)
      have HC4 := hid (HC3.out.below LA.out.2)
      have HF4 := hid (heap_keep HF3.out LA.out.2)
      have HB4 := hid (HB3.out.trans (LA.out.2.mono (Nat.le_of_lt hcw3)))
      have HV4 := hid LA.out.1
      have rV := row_range LA.out.1
      clear hW LA HC3 HF3 HB3 hzS
      generalize w3.heap.size = V at *
      go_wp2_with (refine wpList_load_midG rfl _ _ rfl V 0 rfl (nums .u8 S) _ rV unH rfl hiS.out ?_)
      refine (put_walk cb i (Kh h5x i) S hSo.out (by omega) _ HC4.out (HT.out.below (hcb ▸ HB4.out)) (H6.out.below (hcb ▸ HB4.out))).mono ?_
      rintro e w5 ⟨hgood, _, f5⟩
      obtain ⟨rfl, hc5⟩ := hgood (by rw [HS.out, HP.out]; exact headOk h5x i hlt)
      have HC5 := hid (show ChAt w5 cb (Kh h5x (i + 1)) (i + 1) by rw [HS.out, HP.out] at hc5; exact hc5)
      have HF5 := hid (heap_far HF4.out f5 (Ne.symm hcF))
      have HV5 := hid (heap_far HV4.out f5 (by omega))
      have HB5 := hid (HB4.out.trans (f5.below (Nat.le_refl _) (by have := HC4.out.lt; omega)))
      have r5 := row_range HV5.out
      clear hgood hc5 f5 rV HC4 HF4 HB4 HV4
      by_cases h0 : i = 0
      · subst h0
        have hFz : (nums .u8 (firstV h5x 0)).toArray.size = (nums .u8 S).toArray.size := by simp [(firstV_ok h5_ok 0).1, hSo.out.1]
        go_wp2_with (first | (refine wpList_load_mid rfl _ _ rfl V 0 rfl (nums .u8 S) _ r5 unH rfl hiS.out ?_) | (refine wpList_store_row rfl _ _ _ rfl F (nums .u8 S).toArray rfl rfl _ _ HF5.out hiSa.out hFz hoS.out ?_))
        have hF6 := hid (setRow_heap w5 F _ (nums .u8 S).toArray _ _ HF5.out)
        have f6 := far_row w5 F (nums .u8 S).toArray
        have HB6 := hid (HB5.out.trans (f6.below hFc (by have := HC5.out.lt; omega)))
        have HC6 := hid (HC5.out.far f6 hcF)
        have hFv := hid (show S = firstV h5x 1 by rw [HS.out, HP.out, firstV_pos h5x (by decide)])
        clear f6 r5
        generalize w5.setRow F (nums .u8 S).toArray = w6 at *
        go_wp2
        go_roundw
        case rel => exact ⟨1, by omega, rfl, HC6.out, by rw [← hFv.out]; exact hF6.out, HB6.out⟩
        case measure => simp [intOf]
      · have t0 : ((i : Int) == 0) = false := by rw [beq_eq_false_iff_ne]; omega
        have hFv := hid (show firstV h5x i = firstV h5x (i + 1) by unfold firstV; rw [if_neg h0, if_neg (by omega)])
        clear h0 r5
        go_wp2
        go_roundw
        case rel => exact ⟨i + 1, by omega, by go_num, HC5.out, by rw [← hFv.out]; exact HF5.out, HB5.out⟩
        case measure => simp [intOf]; omega
    · obtain rfl : i = 3 := by omega
      go_wp2_with fail
      refine (get_walk cb 3 281474976710655 (Kh h5x 3) (by omega) _ HC.out (HT.out.below (hcb ▸ HB.out))).mono ?_
      intro e w3 r
      obtain ⟨rfl, b3⟩ := headGet r
      have hSo := hid (secA_ok h5_ok 281474976710655)
      have hFe : firstV h5x 3 = secA h5x 281474976710655 := firstV_pos h5x (by decide)
      have HF3 := heap_keep HF.out b3
      rw [hFe] at HF3
      have hne := first_ne
      have hcw : cb ≤ wr.heap.size := by have := HC.out.lt; omega
      have HB3 := hid (HB.out.trans (b3.mono hcw))
      obtain ⟨S, hS⟩ : ∃ S, S = secA h5x 281474976710655 := ⟨_, rfl⟩
      rw [← hS] at hSo HF3 hne ⊢
      have HFS := hid HF3
      have hiS := hid (infoHl' hSo.out)
      have hiSa := hid (infoHa hSo.out)
      have hzS : ∀ z : Array Value, z.size = 32 → z.size = (nums .u8 S).toArray.size := fun z hz => by rw [hz, List.size_toArray, nums_length, hSo.out.1]
      have hoS := hid (all_oneCell_toArray (nums_oneCell .u8 S))
      have e1 := guard_hv S S
      have e2 : ∀ w, (binOp .eql 23 (.agg (nums .u8 S).toArray) (.agg (nums .u8 S).toArray)).run Tryd.prog w = .ok (.bool true) w := fun w => by
        have := eql_hv (w := w) hSo.out.1 hSo.out.1 hSo.out.2 hSo.out.2
        rw [decide_eq_true rfl] at this; exact this
      have e3 : ∀ w, (binOp .neq 23 (.agg (nums .u8 S).toArray) (.agg #[.int .u8 0, .int .u8 0, .int .u8 0, .int .u8 0, .int .u8 0, .int .u8 0, .int .u8 0, .int .u8 0, .int .u8 0, .int .u8 0, .int .u8 0, .int .u8 0, .int .u8 0, .int .u8 0, .int .u8 0, .int .u8 0, .int .u8 0, .int .u8 0, .int .u8 0, .int .u8 0, .int .u8 0, .int .u8 0, .int .u8 0, .int .u8 0, .int .u8 0, .int .u8 0, .int .u8 0, .int .u8 0, .int .u8 0, .int .u8 0, .int .u8 0, .int .u8 0])).run Tryd.prog w = .ok (.bool true) w := fun w => by
        have := neq_hv (w := w) hSo.out.1 zero32_ok.1 hSo.out.2 zero32_ok.2
        rw [decide_eq_false hne] at this; exact this
      have e4 : ∀ (op : BinOp) (x y : Operand) (w : World), (eqGuard op 23 x y (.agg (nums .u8 S).toArray) (.agg #[.int .u8 0, .int .u8 0, .int .u8 0, .int .u8 0, .int .u8 0, .int .u8 0, .int .u8 0, .int .u8 0, .int .u8 0, .int .u8 0, .int .u8 0, .int .u8 0, .int .u8 0, .int .u8 0, .int .u8 0, .int .u8 0, .int .u8 0, .int .u8 0, .int .u8 0, .int .u8 0, .int .u8 0, .int .u8 0, .int .u8 0, .int .u8 0, .int .u8 0, .int .u8 0, .int .u8 0, .int .u8 0, .int .u8 0, .int .u8 0, .int .u8 0, .int .u8 0])).run Tryd.prog w = .ok () w := guard_hv S zero32
      clear b3 hS hFe HF3 hne r
      unfold hv at e1 ⊢
      go_upto_region 12 with (refine wpList_store_row rfl _ _ _ rfl w3.heap.size (nums .u8 S).toArray rfl rfl _ _ (heap_alloc_new w3 _) hiSa.out (hzS _ rfl) hoS.out ?_)
      have LA := fun z => laid w3 z (nums .u8 S).toArray 23
      generalize hW : World.setRow _ _ _ = w4
      replace LA := hid (hW ▸ LA _)
      have HB4 := hid (HB3.out.trans (LA.out.2.mono (by have := HB3.out.size; omega)))
      have rV := row_range LA.out.1
      have rF := row_range (heap_keep HFS.out LA.out.2)
      clear hW LA hzS
      generalize w3.heap.size = V at *
      go_wp2_with (first | (refine wpList_load_midG rfl _ _ rfl V 0 rfl (nums .u8 S) _ rV unH rfl hiS.out ?_) | (refine wpList_load_midG rfl _ _ rfl F 0 rfl (nums .u8 S) _ rF unH rfl hiS.out ?_))
      go_ret
      exact ⟨rfl, hcb ▸ HB4.out⟩
end Go.Proofs.YtnfklnbdebcpiaaDoor

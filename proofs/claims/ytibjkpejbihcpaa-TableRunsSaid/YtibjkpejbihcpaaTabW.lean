/- TableWays. -/
import Derived.Test.YtibjkpejbihcpaaTabU
namespace Go.Proofs.Ytibjkpejbihcpaa
open Go.RowKit

theorem chk_bad {c u : Nat} (h : c = 0 ∨ u = 0) : chk c u = 60 := if_pos h
theorem toV_ok {n a b : Nat} {up : Bool} (h : ¬ (a = 0 ∨ b = 0)) : toV n a b up = partV n a b up := if_neg h
theorem payB_ok {n c d u : Nat} (h : ¬ (c = 0 ∨ u = 0)) : payB n c d u = decide (d * u ≤ n * c) := if_neg h
def wq (buy : Bool) (rc ru used : Nat) : Quo := ⟨h1x, h9x, buy, 1099511627776, 1, rc, ru, 5, used⟩
def wq0 (buy : Bool) : Quo := askQ h1x h9x buy 1099511627776
theorem ways_rate {buy b : Bool} {rc ru N : Nat} {kept : Nat → Nat → Bool} (h1 : 1 ≤ N) (h2 : N ≤ 65536) (hb : buy ≠ b) : useS (some (wq buy rc ru 0)) b 5 N kept = (qz, 60) :=
  use_rate (q := wq buy rc ru 0) rfl (show ¬ (5:Int) < 5 by decide) (show 1099511627776 < 18446744073709551616 by decide) (show 0 + N ≤ 1099511627776 by omega) (by omega) (.inl hb)
theorem ways_ok {b : Bool} {rc ru N : Nat} {kept : Nat → Nat → Bool} (h1 : 1 ≤ N) (h2 : N ≤ 65536) (hk : kept rc ru = true) : useS (some (wq b rc ru 0)) b 5 N kept = (wq b rc ru (0 + N), 0) :=
  use_ok (q := wq b rc ru 0) rfl (show ¬ (5:Int) < 5 by decide) (show 1099511627776 < 18446744073709551616 by decide) (show 0 + N ≤ 1099511627776 by omega) (by omega) rfl hk
theorem acc_bad {buy : Bool} {rc ru : Nat} (h : rc = 0 ∨ ru = 0) : accS (some (wq0 buy)) rc ru 5 = (qz, 60) := by
  unfold accS
  rw [if_neg (by decide), if_pos h]
theorem acc_good {buy : Bool} {rc ru : Nat} (h : ¬ (rc = 0 ∨ ru = 0)) : accS (some (wq0 buy)) rc ru 5 = (wq buy rc ru 0, 0) := by
  unfold accS
  rw [if_neg (by decide), if_neg h]
  rfl
theorem part_down {a n d : Nat} : partN a n d false * d ≤ a * n := by
  unfold partN
  simp only [Bool.false_eq_true, false_and, if_false, Nat.add_zero]
  exact Nat.div_mul_le_self _ _
theorem part_up {a n d : Nat} (hd : 0 < d) : a * n ≤ partN a n d true * d := by
  unfold partN
  simp only [true_and]
  have h := Nat.div_add_mod (a * n) d
  have h2 := Nat.mod_lt (a * n) hd
  generalize a * n / d = q at *
  rw [Nat.mul_comm] at h
  split
  · rw [Nat.add_mul, Nat.one_mul]; omega
  · rw [Nat.add_zero]; omega
set_option maxRecDepth 100000 in
set_option maxHeartbeats 4000000 in
theorem lawWays (buy : Bool) (rc ru n : Nat) (hrc : rc < 18446744073709551616) (hru : ru < 18446744073709551616) (hn : n < 18446744073709551616) (w : World) :
    Calls Try.prog 5 #[.bool buy, rateV rc ru, .int .u64 n] w (fun e w' => e = .returned (.bool true) ∧ Below w.heap.size w w') := by
  have un := Try.underlying30
  have hiH : (Try.prog.info? 30).map (·.size) = some (nums .u8 h1x).length := by kernel_rfl
  have hiA : (Try.prog.info? 30).map (·.size) = some (nums .u8 h1x).toArray.size := by kernel_rfl
  have h1o := hid (all_oneCell_toArray (nums_oneCell .u8 h1x))
  have e1 := and16 hn
  have bb := (Below.refl w.heap.size w).alloc (Nat.le_refl _) (.cells #[.int .u64 (rc : Int), .int .u64 (ru : Int)] 24)
  have X := hid (Bx2.new w rc ru 24)
  have HB := hid bb
  clear bb
  go_enter Try.func5, Try.ntmps5
  go_wp2_with (fail)
  refine (thead_walk _).mono ?_
  rintro e w0 ⟨rfl, b0⟩
  have B0 := hid (bstep HB.out b0)
  have X0 := hid (X.out.below b0)
  clear b0 X HB
  go_upto_region 4 with (fail)
  obtain ⟨N, hN, n1, n2⟩ : ∃ N : Nat, 1 + (n : Int) % 65536 = (N : Int) ∧ 1 ≤ N ∧ N ≤ 65536 := ⟨1 + n % 65536, by omega, by omega, by omega⟩
  simp only [hN]
  have hN64 : N < 18446744073709551616 := by omega
  clear hN e1
  generalize hBB : w.heap.size = BX at *
  go_wp2_with (fail)
  refine (tnew_walk w0).mono ?_
  rintro e w1 ⟨tb, mb, rfl, t1, l1, l2, b1⟩
  have T1 := hid t1
  have L2 := hid l2
  have B1 := hid b1
  clear t1 l1 l2 b1
  go_upto_region 6 with (refine wpList_store_row rfl _ _ _ rfl w1.heap.size (nums .u8 h1x).toArray rfl rfl _ _ (heap_alloc_new w1 _) hiA rfl h1o.out ?_)
  have R0 := fun z => hid (bare_new (z := z) B1.out T1.out L2.out rfl)
  generalize hK : w1.heap.size = K at *
  generalize hW : World.setRow _ K _ = w2
  replace R0 := hid (hW ▸ (R0 _).out : Bare w0 tb mb h1x K w2)
  clear hW hK B1 T1 L2
  have f := R0.out.key
  go_wp2_with (first | refine wpList_load_mid rfl _ _ rfl K 0 rfl (nums .u8 h1x) _ f un rfl hiH ?_ | refine wpList_load_midG rfl _ _ rfl K 0 rfl (nums .u8 h1x) _ f un rfl hiH ?_)
  refine (bare_ask (id := h9x) R0.out h1_ok h9_ok buy 1099511627776 (by decide) (by decide) h9_ne).mono ?_
  rintro e w3 ⟨rfl, r⟩
  have R1 := hid r
  obtain ⟨x0, x1, _⟩ := X0.out.below R1.out.bel
  clear R0 r f
  have f := R1.out.key
  go_wp2_with (first | refine wpList_load_mid rfl _ _ rfl K 0 rfl (nums .u8 h1x) _ f un rfl hiH ?_ | refine wpList_load_midG rfl _ _ rfl K 0 rfl (nums .u8 h1x) _ f un rfl hiH ?_)
  by_cases hz : rc = 0 ∨ ru = 0
  · refine (rung_acc (q' := wq0 buy) (k := 60) R1.out h1_ok rc ru 5 hrc hru (by decide) (by rw [← wq0, acc_bad hz]) (by rw [← wq0, acc_bad hz]; rfl)).mono ?_
    rintro e w4 ⟨rfl, r⟩
    have R2 := hid r
    clear R1 r f x0 x1
    obtain ⟨x0, x1, _⟩ := X0.out.below R2.out.bel
    have f := R2.out.key
    go_wp2_with (first | refine wpList_load_mid rfl _ _ rfl K 0 rfl (nums .u8 h1x) _ f un rfl hiH ?_ | refine wpList_load_midG rfl _ _ rfl K 0 rfl (nums .u8 h1x) _ f un rfl hiH ?_)
    refine (check_walk rc ru _).mono ?_
    rintro e w5 ⟨rfl, b5⟩
    rw [chk_bad hz]
    have R3 := hid (R2.out.below b5)
    clear R2 b5 f x0 x1
    have f := R3.out.key
    go_wp2_with (first | refine wpList_load_mid rfl _ _ rfl K 0 rfl (nums .u8 h1x) _ f un rfl hiH ?_ | refine wpList_load_midG rfl _ _ rfl K 0 rfl (nums .u8 h1x) _ f un rfl hiH ?_)
    refine (rung_rej (q' := { wq0 buy with st := 2 }) (k := 0) R3.out h1_ok rfl rfl).mono ?_
    rintro e w6 ⟨rfl, r⟩
    have R4 := hid r
    clear R3 r f
    have f := R4.out.key
    go_wp2_with (first | refine wpList_load_mid rfl _ _ rfl K 0 rfl (nums .u8 h1x) _ f un rfl hiH ?_ | refine wpList_load_midG rfl _ _ rfl K 0 rfl (nums .u8 h1x) _ f un rfl hiH ?_)
    refine (rung_acc (q' := { wq0 buy with st := 2 }) (k := 52) R4.out h1_ok 1 1 5 (by decide) (by decide) (by decide) rfl rfl).mono ?_
    rintro e w7 ⟨rfl, r⟩
    have R5 := hid r
    clear R4 r f
    go_wp2
    go_ret
    exact ⟨rfl, by rw [hBB]; exact B0.out.trans (R5.out.bel.mono (by have := B0.out.size; have := X0.out.1; have := World.block_lt_of_cell? w0 _ this; omega))⟩
  · refine (rung_acc (q' := wq buy rc ru 0) (k := 0) R1.out h1_ok rc ru 5 hrc hru (by decide) (by rw [← wq0, acc_good hz]) (by rw [← wq0, acc_good hz]; rfl)).mono ?_
    rintro e w4 ⟨rfl, r⟩
    have R2 := hid r
    clear R1 r f x0 x1
    obtain ⟨x0, x1, _⟩ := X0.out.below R2.out.bel
    have f := R2.out.key
    go_wp2_with (first | refine wpList_load_mid rfl _ _ rfl K 0 rfl (nums .u8 h1x) _ f un rfl hiH ?_ | refine wpList_load_midG rfl _ _ rfl K 0 rfl (nums .u8 h1x) _ f un rfl hiH ?_)
    refine (toCoins_walk rc ru N false hrc hru hN64 _).mono ?_
    rintro e w5 ⟨rfl, b5⟩
    have R3 := hid (R2.out.below b5)
    clear R2 b5 f x0 x1
    rw [toV_ok hz]
    obtain ⟨x0, x1, _⟩ := X0.out.below R3.out.bel
    by_cases hd : partN N rc ru false < 18446744073709551616
    · rw [partV_yes (fun h => hz (.inr h)) hd]
      have pd := part_down (a := N) (n := rc) (d := ru)
      generalize partN N rc ru false = D at *
      go_wp2_with (fail)
      refine (toCoins_walk rc ru N true hrc hru hN64 _).mono ?_
      rintro e w6 ⟨rfl, b6⟩
      have R4 := hid (R3.out.below b6)
      clear R3 b6 x0 x1
      rw [toV_ok hz]
      by_cases hu : partN N rc ru true < 18446744073709551616
      · rw [partV_yes (fun h => hz (.inr h)) hu]
        have pu := part_up (a := N) (n := rc) (d := ru) (by omega)
        generalize partN N rc ru true = U at *
        have f := R4.out.key
        cases buy
        · go_wp2_with (first | refine wpList_load_mid rfl _ _ rfl K 0 rfl (nums .u8 h1x) _ f un rfl hiH ?_ | refine wpList_load_midG rfl _ _ rfl K 0 rfl (nums .u8 h1x) _ f un rfl hiH ?_)
          refine (rung_buy (q' := wq false rc ru 0) (k := 60) R4.out h1_ok 5 N U hN64 hu (by rw [ways_rate n1 n2 (by decide)]) (by rw [ways_rate n1 n2 (by decide)]; rfl)).mono ?_
          rintro e w7 ⟨rfl, r⟩
          have R5 := hid r
          clear R4 r f
          have f := R5.out.key
          go_wp2_with (first | refine wpList_load_mid rfl _ _ rfl K 0 rfl (nums .u8 h1x) _ f un rfl hiH ?_ | refine wpList_load_midG rfl _ _ rfl K 0 rfl (nums .u8 h1x) _ f un rfl hiH ?_)
          refine (rung_sell (q' := wq false rc ru (0 + N)) (k := 0) R5.out h1_ok 5 N D hN64 hd (by rw [ways_ok n1 n2 (by show payB N rc D ru = true; rw [payB_ok hz]; exact decide_eq_true pd)]) (by rw [ways_ok n1 n2 (by show payB N rc D ru = true; rw [payB_ok hz]; exact decide_eq_true pd)]; rfl)).mono ?_
          rintro e w8 ⟨rfl, r⟩
          have R6 := hid r
          clear R5 r f
          go_wp2
          go_ret
          exact ⟨rfl, by rw [hBB]; exact B0.out.trans (R6.out.bel.mono (by have := B0.out.size; have := X0.out.1; have := World.block_lt_of_cell? w0 _ this; omega))⟩
        · go_wp2_with (first | refine wpList_load_mid rfl _ _ rfl K 0 rfl (nums .u8 h1x) _ f un rfl hiH ?_ | refine wpList_load_midG rfl _ _ rfl K 0 rfl (nums .u8 h1x) _ f un rfl hiH ?_)
          refine (rung_sell (q' := wq true rc ru 0) (k := 60) R4.out h1_ok 5 N D hN64 hd (by rw [ways_rate n1 n2 (by decide)]) (by rw [ways_rate n1 n2 (by decide)]; rfl)).mono ?_
          rintro e w7 ⟨rfl, r⟩
          have R5 := hid r
          clear R4 r f
          have f := R5.out.key
          go_wp2_with (first | refine wpList_load_mid rfl _ _ rfl K 0 rfl (nums .u8 h1x) _ f un rfl hiH ?_ | refine wpList_load_midG rfl _ _ rfl K 0 rfl (nums .u8 h1x) _ f un rfl hiH ?_)
          refine (rung_buy (q' := wq true rc ru (0 + N)) (k := 0) R5.out h1_ok 5 N U hN64 hu (by rw [ways_ok n1 n2 (by show payB U ru N rc = true; rw [payB_ok (fun h => hz h.symm)]; exact decide_eq_true pu)]) (by rw [ways_ok n1 n2 (by show payB U ru N rc = true; rw [payB_ok (fun h => hz h.symm)]; exact decide_eq_true pu)]; rfl)).mono ?_
          rintro e w8 ⟨rfl, r⟩
          have R6 := hid r
          clear R5 r f
          go_wp2
          go_ret
          exact ⟨rfl, by rw [hBB]; exact B0.out.trans (R6.out.bel.mono (by have := B0.out.size; have := X0.out.1; have := World.block_lt_of_cell? w0 _ this; omega))⟩
      · rw [partV_no (fun h => hz (.inr h)) hu]
        go_wp2
        go_ret
        exact ⟨rfl, by rw [hBB]; exact B0.out.trans (R4.out.bel.mono (by have := B0.out.size; have := X0.out.1; have := World.block_lt_of_cell? w0 _ this; omega))⟩
    · rw [partV_no (fun h => hz (.inr h)) hd]
      go_wp2_with (fail)
      refine (toCoins_walk rc ru N true hrc hru hN64 _).mono ?_
      rintro e w6 ⟨rfl, b6⟩
      have R4 := hid (R3.out.below b6)
      clear R3 b6 x0 x1
      obtain ⟨v1, v2, hv⟩ := partV_shape N rc ru true
      rw [toV_ok hz, hv]
      go_wp2
      go_ret
      exact ⟨rfl, by rw [hBB]; exact B0.out.trans (R4.out.bel.mono (by have := B0.out.size; have := X0.out.1; have := World.block_lt_of_cell? w0 _ this; omega))⟩
end Go.Proofs.Ytibjkpejbihcpaa

/- The walk of the statement SecretsLead. -/
import Derived.Test.YtnfklnbdebcpiaaDoorSecw
namespace Go.Proofs.YtnfklnbdebcpiaaDoor
open Go.RowKit

theorem and15 (n : Int) : bits .and .i64 n 15 = n % 16 := by
  have h127 : (BitVec.ofInt 64 15).toNat = 2 ^ 4 - 1 := by decide
  have key : (BitVec.ofInt 64 n &&& BitVec.ofInt 64 15).toNat = (n % ((2 ^ 64 : Nat) : Int)).toNat % 2 ^ 4 := by
    rw [BitVec.toNat_and, BitVec.toNat_ofInt, h127, Nat.and_two_pow_sub_one_eq_mod]
  show IntKind.i64.wrap ((BitVec.ofInt 64 n &&& BitVec.ofInt 64 15).toNat : Nat) = n % 16
  rw [key, IntKind.wrap_i64]
  omega
theorem and48 (p : Nat) (h : p < 18446744073709551616) : bits .and .u64 (p : Int) 281474976710655 = ((p % 281474976710656 : Nat) : Int) := by
  have h1 := bits_and_u64_nat p 281474976710655 h (by omega)
  have e : p &&& 281474976710655 = p % 281474976710656 := Nat.and_two_pow_sub_one_eq_mod p 48
  rw [e] at h1
  exact h1
theorem andMask (x m : Nat) (hx : x < 18446744073709551616) (hm : m < 16) : bits .and .u64 (x : Int) ((2 ^ m - 1 : Nat) : Int) = ((x % 2 ^ m : Nat) : Int) := by
  have h2 : 2 ^ m < 2 ^ 16 := Nat.pow_lt_pow_right (by omega) hm
  have h1 := bits_and_u64_nat x (2 ^ m - 1) hx (by omega)
  rw [Nat.and_two_pow_sub_one_eq_mod] at h1
  exact h1
def tabC : Array Value := (nums .u32 (H0 ++ K0)).toArray
theorem tabV_eq : tabV = .agg tabC := rfl
theorem tabC_info : (Tryd.prog.info? 34).map (·.size) = some tabC.size := by rw [tabC, List.size_toArray, nums_length]; exact infoTab
theorem tabC_one : tabC.all (·.oneCell') = true := all_oneCell_toArray (nums_oneCell .u32 _)
theorem tabC_size : zc34.size = tabC.size := by rw [zeroTab_size]; rw [tabC, List.size_toArray, nums_length]; rfl
set_option maxRecDepth 100000 in
set_option maxHeartbeats 8000000 in
theorem lawLead (s : List Nat) (p : Nat) (q : Int) (hs : H32 s) (hp : p < 18446744073709551616) (_hq : (Lit.int .i64 q).wf = true) (w : World) (ht : Tabs w ∧ Tab64 w) :
    Calls Tryd.prog 4 #[hv s, .int .u64 (p : Int), .int .i64 q] w fun e w' => e = .returned (.bool true) ∧ Below w.heap.size w w' := by
  have HT := hid ht.1
  have H6 := hid ht.2
  have unH := Tryd.underlying23
  have hiP := hid (infoHl' hs)
  have gP := heap_alloc_new w (.cells (nums .u8 s).toArray 23)
  have b0 := (Below.refl w.heap.size w).alloc (Nat.le_refl _) (.cells (nums .u8 s).toArray 23)
  have zr := zv34
  have zn := zn34
  clear ht _hq
  unfold hv
  go_enter Tryd.func4, Tryd.ntmps4
  go_wp2_with fail
  generalize World.alloc w _ = w0 at *
  refine (sechead_walk w0 (HT.out.below b0) (H6.out.below b0)).mono ?_
  rintro e w1 ⟨rfl, b1⟩
  have B1 := hid (b0.trans (b1.mono b0.size))
  have VP1 := hid (heap_keep gP b1)
  clear gP b0 b1
  generalize hP : w.heap.size = P at *
  have hpw1 : P < w1.heap.size := (Array.getElem?_eq_some_iff.1 VP1.out).1
  obtain ⟨m, hm⟩ : ∃ m : Nat, q % 16 = (m : Int) := ⟨(q % 16).toNat, by omega⟩
  have hm16 : m < 16 := by omega
  have em : bits .and .i64 q 15 = (m : Int) := by rw [and15]; exact hm
  obtain ⟨a, ha⟩ : ∃ a : Nat, a = p % 281474976710656 := ⟨_, rfl⟩
  have ea : bits .and .u64 (p : Int) 281474976710655 = (a : Int) := by rw [and48 p hp, ha]
  have ha48 : a < 281474976710656 := by omega
  clear hm ha
  obtain ⟨k, hk⟩ : ∃ k : Nat, k = a / 2 ^ m := ⟨_, rfl⟩
  have e1 : (a : Int) / 2 ^ m = (k : Int) := by rw [hk, shr_int]
  obtain ⟨b, hb⟩ : ∃ b : Nat, b = k * 2 ^ m := ⟨_, rfl⟩
  have hba : b ≤ a := by rw [hb, hk]; exact Nat.div_mul_le_self _ _
  have e2 : IntKind.u64.wrap ((k : Int) * 2 ^ m) = (b : Int) := by
    have e : (k : Int) * 2 ^ m = (b : Int) := by rw [hb, Int.natCast_mul, Int.natCast_pow]; rfl
    rw [e, IntKind.wrap_u64]; omega
  have HK := hid hk
  have HBB := hid hb
  have hb48 : b < 281474976710656 := by omega
  clear hk hb
  go_wp2_with fail
  refine (make_walk _).mono ?_
  rintro e w2 ⟨rfl, b2⟩
  have B2 := hid (B1.out.trans (b2.mono (Nat.le_of_lt hpw1)))
  have VP2 := hid (heap_keep VP1.out b2)
  rw [tabV_eq]
  clear b2 e1 e2 em ea VP1 B1
  go_upto_region 6 with (refine wpList_store_row rfl _ _ _ rfl w2.heap.size tabC rfl rfl _ _ (heap_alloc_new w2 _) tabC_info tabC_size tabC_one ?_)
  have LA := fun z => laid w2 z tabC 34
  generalize hW : World.setRow _ _ _ = w3
  replace LA := hid (hW ▸ LA _)
  have hpw2 : P < w2.heap.size := (Array.getElem?_eq_some_iff.1 VP2.out).1
  have B3 := hid (B2.out.trans (LA.out.2.mono (Nat.le_of_lt hpw2)))
  have VP3 := hid (heap_keep VP2.out LA.out.2)
  have VT3 := hid LA.out.1
  have hpw3 : P < w3.heap.size := (Array.getElem?_eq_some_iff.1 VP3.out).1
  clear hW LA VP2 B2
  generalize w2.heap.size = T0 at *
  have f1 := row_range VP3.out
  go_wp2_with (refine wpList_load_mid rfl _ _ rfl P 0 rfl (nums .u8 s) _ f1 unH rfl hiP.out ?_)
  refine (at_walk s b hs hb48 _ (HT.out.below (hP ▸ B3.out))).mono ?_
  rintro e w4 ⟨rfl, b4⟩
  have B4 := hid (B3.out.trans (b4.mono (Nat.le_of_lt hpw3)))
  have VP4 := hid (heap_keep VP3.out b4)
  have VT4 := hid (heap_keep VT3.out b4)
  have hpw4 : P < w4.heap.size := (Array.getElem?_eq_some_iff.1 VP4.out).1
  have hS1o := hid (show H32 (leadN b 48 s) from leadN_ok hs)
  obtain ⟨S1, hS1⟩ : ∃ S, S = leadN b 48 s := ⟨_, rfl⟩
  rw [← hS1] at hS1o ⊢
  have HS1 := hid hS1
  have hiS1 := hid (infoHl' hS1o.out)
  have hiS1a := hid (infoHa hS1o.out)
  have hzS : ∀ z : Array Value, z.size = 32 → z.size = (nums .u8 S1).toArray.size := fun z hz => by rw [hz, List.size_toArray, nums_length, hS1o.out.1]
  have hoS := hid (all_oneCell_toArray (nums_oneCell .u8 S1))
  clear b4 f1 hS1 VP3 VT3 B3
  unfold hv
  go_upto_region 7 with (refine wpList_store_row rfl _ _ _ rfl w4.heap.size (nums .u8 S1).toArray rfl rfl _ _ (heap_alloc_new w4 _) hiS1a.out (hzS _ rfl) hoS.out ?_)
  have LA := fun z => laid w4 z (nums .u8 S1).toArray 23
  generalize hW : World.setRow _ _ _ = wl
  replace LA := hid (hW ▸ LA _)
  have B5 := hid (B4.out.trans (LA.out.2.mono (Nat.le_of_lt hpw4)))
  have VP5 := hid (heap_keep VP4.out LA.out.2)
  have VT5 := hid (heap_keep VT4.out LA.out.2)
  have V15 := hid LA.out.1
  have hpw5 : P < wl.heap.size := (Array.getElem?_eq_some_iff.1 VP5.out).1
  have hiT := hid (show (Tryd.prog.info? 34).map (·.size) = some (nums .u32 (H0 ++ K0)).length by rw [nums_length]; exact infoTab)
  clear hW LA VP4 VT4 B4 hzS
  generalize w4.heap.size = V1 at *
  go_wp2
  go_loopw [10] (fun x10 wr => ∃ i : Nat, i ≤ 3 ∧ x10 = .int .u64 i ∧ Below wl.heap.size wl wr) (fun x10 _ => 3 - (intOf x10).toNat)
  case atStart => exact ⟨0, by omega, rfl, Below.refl _ _⟩
  case round =>
    obtain ⟨i, hi, rfl, hbl⟩ := hrel
    have HB := hid hbl
    clear hbl
    by_cases hlt : i < 3
    · obtain ⟨i2, hi2⟩ : ∃ x : Nat, x = i * i := ⟨_, rfl⟩
      have b2 : i2 ≤ 4 := by rw [hi2]; exact Nat.mul_le_mul (show i ≤ 2 by omega) (show i ≤ 2 by omega)
      obtain ⟨i3, hi3⟩ : ∃ x : Nat, x = i2 * i := ⟨_, rfl⟩
      have b3 : i3 ≤ 8 := by rw [hi3]; exact Nat.mul_le_mul b2 (show i ≤ 2 by omega)
      obtain ⟨c, hc⟩ : ∃ x : Nat, x = i3 + i := ⟨_, rfl⟩
      have m1 : (i : Int) * (i : Int) = (i2 : Int) := by rw [hi2, Int.natCast_mul]
      have m2 : (i2 : Int) * (i : Int) = (i3 : Int) := by rw [hi3, Int.natCast_mul]
      have m3 : (i3 : Int) + (i : Int) = (c : Int) := by omega
      have hc16 : c ≤ 10 := by omega
      obtain ⟨T, hT⟩ : ∃ T : Nat, T = 2 ^ m := ⟨_, rfl⟩
      have hT0 : 0 < T := by rw [hT]; exact Nat.two_pow_pos m
      have hTb : T < 65536 := by
        have : 2 ^ m < 2 ^ 16 := Nat.pow_lt_pow_right (by omega) hm16
        omega
      obtain ⟨T1, hT1⟩ : ∃ T1 : Nat, T1 = T - 1 := ⟨_, rfl⟩
      have m4 : (2 : Int) ^ m % 18446744073709551616 = (T : Int) := by
        have e : ((2 ^ m : Nat) : Int) = (2 : Int) ^ m := by rw [Int.natCast_pow]; rfl
        rw [← e, ← hT]; omega
      have m4' : IntKind.u64.wrap ((2 : Int) ^ m) = (T : Int) := by rw [IntKind.wrap_u64]; exact m4
      have m5 : (T : Int) - 1 = (T1 : Int) := by omega
      obtain ⟨r, hr⟩ : ∃ r : Nat, r = c % T := ⟨_, rfl⟩
      have hrT : r < T := by rw [hr]; exact Nat.mod_lt _ hT0
      have m6 : bits .and .u64 (c : Int) (T1 : Int) = (r : Int) := by
        have := andMask c m (by omega) hm16
        rw [hT1, hT, this, hr, hT]
      obtain ⟨to, hto⟩ : ∃ t : Nat, t = b + r := ⟨_, rfl⟩
      have m7 : (b : Int) + (r : Int) = (to : Int) := by omega
      have hdiv : to / 2 ^ m = k := by
        rw [hto, HBB.out, ← hT, Nat.add_comm, Nat.add_mul_div_right _ _ hT0, Nat.div_eq_of_lt hrT, Nat.zero_add]
      have hto48 : to < 281474976710656 := by
        apply Nat.lt_of_not_le
        intro h
        have h1 : 281474976710656 / 2 ^ m ≤ to / 2 ^ m := Nat.div_le_div_right h
        rw [hdiv, HK.out] at h1
        have h2 : 281474976710656 = 2 ^ (48 - m) * 2 ^ m := by rw [← Nat.pow_add, show 48 - m + m = 48 by omega]
        rw [h2, Nat.mul_div_cancel _ (Nat.two_pow_pos m)] at h1
        have h3 : 2 ^ (48 - m) * 2 ^ m ≤ a := by
          have := Nat.mul_le_mul_right (2 ^ m) h1
          exact Nat.le_trans this (Nat.div_mul_le_self _ _)
        rw [← h2] at h3
        omega
      have hTR : 18446744073709551616 > to := by omega
      have VPr := hid (heap_keep VP5.out HB.out)
      have VTr := hid (heap_keep VT5.out HB.out)
      have V1r := hid (heap_keep V15.out HB.out)
      have HBr := hid (B5.out.trans (HB.out.mono (Nat.le_of_lt hpw5)))
      have hpwr : P < wr.heap.size := (Array.getElem?_eq_some_iff.1 VPr.out).1
      have f1 := row_range VPr.out
      have HDV := hid hdiv
      clear hi2 hi3 hc hT hT1 hr hto hdiv
      go_wp2_with (refine wpList_load_mid rfl _ _ rfl P 0 rfl (nums .u8 s) _ f1 unH rfl hiP.out ?_)
      refine (at_walk s to hs hto48 _ (HT.out.below (hP ▸ HBr.out))).mono ?_
      rintro e w6 ⟨rfl, b6⟩
      have HB6 := hid (HB.out.trans (b6.mono HB.out.size))
      have hS2o := hid (show H32 (leadN to 48 s) from leadN_ok hs)
      have hl2 : leadN to m S1 = leadN to 48 s := by rw [HS1.out, HBB.out]; exact lead_to (by omega) HDV.out
      have g1 : ∀ (op : BinOp) (x y : Operand) (w : World), (eqGuard op 23 x y (.agg (nums .u8 (leadN to 48 s)).toArray) (hv (leadN to 48 s))).run Tryd.prog w = .ok () w := guard_hv (leadN to 48 s) (leadN to 48 s)
      have g2 : ∀ w, (binOp .neq 23 (.agg (nums .u8 (leadN to 48 s)).toArray) (hv (leadN to 48 s))).run Tryd.prog w = .ok (.bool false) w := fun w => by
        have := neq_hv (w := w) hS2o.out.1 hS2o.out.1 hS2o.out.2 hS2o.out.2
        rw [decide_eq_true rfl] at this; exact this
      have ld := fun (w : World) => lead_walk S1 to m hS1o.out (by omega) (by omega) w
      rw [hl2] at ld
      obtain ⟨S2, hS2⟩ : ∃ S, S = leadN to 48 s := ⟨_, rfl⟩
      rw [← hS2] at hS2o g1 g2 ld ⊢
      have LDW := hid ld
      have hiS2 := hid (infoHl' hS2o.out)
      have hiS2a := hid (infoHa hS2o.out)
      have hzS : ∀ z : Array Value, z.size = 32 → z.size = (nums .u8 S2).toArray.size := fun z hz => by rw [hz, List.size_toArray, nums_length, hS2o.out.1]
      have hoS2 := hid (all_oneCell_toArray (nums_oneCell .u8 S2))
      clear ld hS2 hl2 b6 f1 m1 m2 m3 m4 m4' m5 m6 m7 VPr HBr
      unfold hv
      go_upto_region 14 with (refine wpList_store_row rfl _ _ _ rfl w6.heap.size (nums .u8 S2).toArray rfl rfl _ _ (heap_alloc_new w6 _) hiS2a.out (hzS _ rfl) hoS2.out ?_)
      have LA := fun z => laid w6 z (nums .u8 S2).toArray 23
      generalize hW : World.setRow _ _ _ = wb
      replace LA := hid (hW ▸ LA _)
      have HB7 := hid (HB6.out.trans (LA.out.2.mono HB6.out.size))
      have RV2 := hid (row_range LA.out.1)
      have RV1 := hid (row_range (heap_keep V15.out HB7.out))
      have RT := hid (row_range (L := nums .u32 (H0 ++ K0)) (heap_keep VT5.out HB7.out))
      clear hW LA hzS V1r VTr
      generalize w6.heap.size = V2 at *
      refine wp_region_held_drew (S := fun w' => Below wb.heap.size wb w') (by kernel_rfl) ((Below.refl _ _).drew) (fun hHeld => ?_)
      try simp only [List.size_toArray, List.length_cons, List.length_nil, Nat.reduceAdd, Array.replicate_succ, Array.replicate_zero, List.push_toArray, List.nil_append, List.cons_append]
      refine wpAnyH_take (i := 0) (oi := { dst := some 59, op := Op.move (Operand.tmp 13), type := 26, pos := "law.go:223", after := #[], guard := none }) (v := ?v1) rfl (by kernel_rfl) (by kernel_rfl) (by kernel_rfl) (fun _ _ _ h => h) (Or.inl ⟨by rfl, ?hy1⟩) hHeld ?_
      case hy1 => (intro w hSw; (try dsimp only at hSw); go_simp; (try with_reducible rfl))
      (try simp only [Act.put, List.setIfInBounds_toArray, List.set_cons_zero, List.set_cons_succ])
      refine wpAnyH_take (i := 1) (oi := { dst := some 60, op := Op.binOp BinOp.neq 26 (Operand.tmp 59) (Operand.const (Value.int IntKind.i64 0)) 26, type := 4, pos := "law.go:223", after := #[{ on := 0, ground := Ground.data }], guard := none }) (v := ?v2) rfl (by kernel_rfl) (by kernel_rfl) (by kernel_rfl) (fun _ _ _ h => h) (Or.inl ⟨by rfl, ?hy2⟩) hHeld ?_
      case hy2 => (intro w hSw; (try dsimp only at hSw); go_simp; (try with_reducible rfl))
      (try simp only [Act.put, List.setIfInBounds_toArray, List.set_cons_zero, List.set_cons_succ])
      refine wpAnyH_take (i := 2) (oi := { dst := some 61, op := Op.move (Operand.tmp 60), type := 4, pos := "law.go:223", after := #[{ on := 1, ground := Ground.data }], guard := none }) (v := ?v3) rfl (by kernel_rfl) (by kernel_rfl) (by kernel_rfl) (fun _ _ _ h => h) (Or.inl ⟨by rfl, ?hy3⟩) hHeld ?_
      case hy3 => (intro w hSw; (try dsimp only at hSw); go_simp; (try with_reducible rfl))
      (try simp only [Act.put, List.setIfInBounds_toArray, List.set_cons_zero, List.set_cons_succ])
      refine' wpAnyH_take (i := 3) (oi := { dst := some 62, op := Op.load 23 (Operand.tmp 12), type := 23, pos := "law.go:223", after := #[{ on := 2, ground := Ground.guard }], guard := some (2, false) }) (v := _) rfl (by kernel_rfl) (by kernel_rfl) (by kernel_rfl) (fun _ _ _ h => h) (yieldsIf_load_mid (by rfl) _ _ rfl V2 0 rfl (nums .u8 S2) _ (fun _ h => range_keep h RV2.out) unH rfl hiS2.out) hHeld ?_
      (try simp only [Act.put, List.setIfInBounds_toArray, List.set_cons_zero, List.set_cons_succ])
      refine' wpAnyH_take (i := 4) (oi := { dst := some 63, op := Op.load 34 (Operand.tmp 7), type := 34, pos := "law.go:223", after := #[{ on := 2, ground := Ground.guard }], guard := some (2, false) }) (v := _) rfl (by kernel_rfl) (by kernel_rfl) (by kernel_rfl) (fun _ _ _ h => h) (yieldsIf_load_mid (by rfl) _ _ rfl T0 0 rfl (nums .u32 (H0 ++ K0)) _ (fun _ h => range_keep h RT.out) Tryd.underlying34 rfl hiT.out) hHeld ?_
      (try simp only [Act.put, List.setIfInBounds_toArray, List.set_cons_zero, List.set_cons_succ])
      refine' wpAnyH_take (i := 5) (oi := { dst := some 64, op := Op.load 23 (Operand.tmp 8), type := 23, pos := "law.go:223", after := #[{ on := 2, ground := Ground.guard }], guard := some (2, false) }) (v := _) rfl (by kernel_rfl) (by kernel_rfl) (by kernel_rfl) (fun _ _ _ h => h) (yieldsIf_load_mid (by rfl) _ _ rfl V1 0 rfl (nums .u8 S1) _ (fun _ h => range_keep h RV1.out) unH rfl hiS1.out) hHeld ?_
      (try simp only [Act.put, List.setIfInBounds_toArray, List.set_cons_zero, List.set_cons_succ])
      refine wpAnyH_take (i := 6) (oi := { dst := some 65, op := Op.move (Operand.tmp 11), type := 24, pos := "law.go:223", after := #[{ on := 2, ground := Ground.guard }], guard := some (2, false) }) (v := ?v4) rfl (by kernel_rfl) (by kernel_rfl) (by kernel_rfl) (fun _ _ _ h => h) (Or.inl ⟨by rfl, ?hy4⟩) hHeld ?_
      case hy4 => (intro w hSw; (try dsimp only at hSw); go_simp; (try with_reducible rfl))
      (try simp only [Act.put, List.setIfInBounds_toArray, List.set_cons_zero, List.set_cons_succ])
      refine wpAnyH_take (i := 7) (oi := { dst := some 66, op := Op.move (Operand.tmp 2), type := 3, pos := "law.go:223", after := #[{ on := 2, ground := Ground.guard }], guard := some (2, false) }) (v := ?v5) rfl (by kernel_rfl) (by kernel_rfl) (by kernel_rfl) (fun _ _ _ h => h) (Or.inl ⟨by rfl, ?hy5⟩) hHeld ?_
      case hy5 => (intro w hSw; (try dsimp only at hSw); go_simp; (try with_reducible rfl))
      (try simp only [Act.put, List.setIfInBounds_toArray, List.set_cons_zero, List.set_cons_succ])
      refine wpAnyH_ready (rs := [8]) (by kernel_rfl) (by simp) ?_
      refine AllReadyH.cons (o := { dst := some 67, op := Op.call { callee := Callee.value (Operand.func 10), args := #[Operand.tmp 63, Operand.tmp 64, Operand.tmp 65, Operand.tmp 66], argTypes := #[34, 22, 24, 3] }, type := 22, pos := "law.go:223", after := #[{ on := 4, ground := Ground.data }, { on := 5, ground := Ground.data }, { on := 6, ground := Ground.data }, { on := 7, ground := Ground.data }, { on := 2, ground := Ground.chain }, { on := 2, ground := Ground.guard }], guard := some (2, false) }) rfl (fun K hK => ?_) ?_
      go_simp; refine (LDW.out _).mono ?_; rintro e wo ⟨rfl, bo⟩; have BO := hid bo; clear bo
      refine hK.out _ _ (by first | exact hHeld.trans (BO.out.mono hHeld.size) | exact BO.out) (fun hHeld => ?_)
      clear hK K
      (try simp only [List.setIfInBounds_toArray, List.set_cons_zero, List.set_cons_succ])
      refine wpAnyH_take (i := 9) (oi := { dst := some 68, op := Op.binOp BinOp.neq 23 (Operand.tmp 62) (Operand.tmp 67) 23, type := 4, pos := "law.go:223", after := #[{ on := 3, ground := Ground.data }, { on := 8, ground := Ground.data }, { on := 2, ground := Ground.guard }], guard := some (2, false) }) (v := ?v6) rfl (by kernel_rfl) (by kernel_rfl) (by kernel_rfl) (fun _ _ _ h => h) (Or.inl ⟨by rfl, ?hy6⟩) hHeld ?_
      case hy6 => (intro w hSw; (try dsimp only at hSw); go_simp; (try with_reducible rfl))
      (try simp only [Act.put, List.setIfInBounds_toArray, List.set_cons_zero, List.set_cons_succ])
      refine wpAnyH_take (i := 10) (oi := { dst := some 69, op := Op.pick (Operand.tmp 61) (Operand.const (Value.bool true)) (Operand.tmp 68), type := 4, pos := "law.go:223", after := #[{ on := 2, ground := Ground.data }, { on := 9, ground := Ground.data }], guard := none }) (v := ?v7) rfl (by kernel_rfl) (by kernel_rfl) (by kernel_rfl) (fun _ _ _ h => h) (Or.inl ⟨by rfl, ?hy7⟩) hHeld ?_
      case hy7 => (intro w hSw; (try dsimp only at hSw); go_simp; (try with_reducible rfl))
      (try simp only [Act.put, List.setIfInBounds_toArray, List.set_cons_zero, List.set_cons_succ])
      refine wpAnyH_done (by kernel_rfl) ?_ _
      rotate_left
      exact AllReadyH.nil
      all_goals
        have BF := hid (HB7.out.trans (hHeld.mono HB7.out.size))
        clear hHeld g1 g2
        go_wp2
        go_roundw
        case rel => exact ⟨i + 1, by omega, by go_num, BF.out⟩
        case measure => simp [intOf]; omega
    · have BF := hid (B5.out.trans (HB.out.mono (Nat.le_of_lt hpw5)))
      go_wp2
      go_ret
      exact ⟨rfl, hP ▸ BF.out⟩
end Go.Proofs.YtnfklnbdebcpiaaDoor

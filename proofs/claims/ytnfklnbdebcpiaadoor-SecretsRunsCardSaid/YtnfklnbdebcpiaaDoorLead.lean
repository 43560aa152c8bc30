/- The walk of the law's 'lead'. -/
import Derived.Test.YtnfklnbdebcpiaaDoorDer
import Derived.Test.YtnfklnbdebcpiaaDoorRsum
namespace Go.Proofs.YtnfklnbdebcpiaaDoor
open Go.RowKit

theorem row1' {w : World} {g : Nat} {v : Value} {T : TypeId} (h : w.heap[g]? = some (.cells #[v] T (0, 0))) : w.cell? ⟨g, 0, none⟩ = some v := by rw [cell_of_row _ g 0 _ _ (0, 0) h]; rfl
theorem rsum1_walk (G : Nat) (a : Option Addr) (n c : Nat) (xs : List Nat) (w : World) (hc : w.cell? ⟨G, 0, none⟩ = some (.slice a n c)) (h : Sl .u8 w a n c xs) (hx : ∀ d ∈ xs, d < 256) (hn : n ≤ 1048576) :
    Calls Tryd.prog 21 #[tabV, .slice (some ⟨G, 0, none⟩) 1 1] w (SumRes xs w) := by
  have P := parts1 hc h hx (by omega)
  have hl := h.len
  have := rsum_walk (some ⟨G, 0, none⟩) 1 1 _ w P (by simp [flat]; omega)
  simpa [flat] using this
theorem infoHo {xs : List Nat} (h : H32 xs) : (Tryd.prog.info? 22).map (·.size) = some (nums .u8 xs).toArray.size := by rw [List.size_toArray, nums_length, h.1]; exact infoO
set_option maxRecDepth 100000 in
set_option maxHeartbeats 8000000 in
theorem lead_walk (s : List Nat) (p n : Nat) (hs : H32 s) (hp : p < 18446744073709551616) (hn : n ≤ 48) (w : World) :
    Calls Tryd.prog 10 #[tabV, hv s, .int .u64 (p : Int), .int .i64 (n : Int)] w (DigRes (leadN p n s) w) := by
  have HS := hid hs
  obtain ⟨tc, htc⟩ : ∃ tc : Array Value, tc = (nums .u32 (H0 ++ K0)).toArray := ⟨_, rfl⟩
  have hT : tabV = .agg tc := by rw [htc]; rfl
  rw [hT]
  have htl := hid (show tc.toList = nums .u32 (H0 ++ K0) by rw [htc])
  have hiT := hid (show (Tryd.prog.info? 34).map (·.size) = some (nums .u32 (H0 ++ K0)).length by rw [nums_length]; exact infoTab)
  clear hT htc hs
  have A3 := fun z => alloc3p w (.cells tc 34) (.cells (nums .u8 s).toArray 22) (.cells z 22)
  unfold hv
  go_enter Tryd.func10, Tryd.ntmps10
  go_upto_region 1 with (fail)
  generalize hW : World.alloc (World.alloc (World.alloc w _) _) _ = wb
  replace A3 : ∃ z : Array Value, z.size = 32 ∧ wb.heap[w.heap.size]? = some (.cells tc 34 (0, 0)) ∧ wb.heap[w.heap.size + 1]? = some (.cells (nums .u8 s).toArray 22 (0, 0)) ∧ wb.heap[w.heap.size + 1 + 1]? = some (.cells z 22 (0, 0)) ∧ Below w.heap.size w wb := ⟨_, by rfl, hW ▸ (A3 _).1, hW ▸ (A3 _).2.1, hW ▸ (A3 _).2.2.1, hW ▸ (A3 _).2.2.2⟩
  obtain ⟨z, hz, gT, gP, gZ, b0⟩ := A3
  have HTT := hid gT
  have HP := hid gP
  have HZ := hid gZ
  have B0 := hid b0
  have hz := hid hz
  clear hW gT gP gZ b0
  generalize hT0 : w.heap.size = T0 at *
  generalize hP : T0 + 1 = P at *
  generalize hR : P + 1 = R at *
  have hTP : T0 < P := by omega
  have hPR : P < R := by omega
  clear hP hR
  go_wp2
  go_loopw [9] (fun x9 wr => ∃ (k : Nat) (b : Int) (sk : List Nat), Hid (b = (k : Int) - 1) ∧ k ≤ n ∧ x9 = .int .i64 b ∧ Hid (leadN p k sk = leadN p n s) ∧ Hid (H32 sk) ∧ wr.heap[T0]? = some (.cells tc 34 (0, 0)) ∧ wr.heap[P]? = some (.cells (nums .u8 sk).toArray 22 (0, 0)) ∧ wr.heap[R]? = some (.cells z 22 (0, 0)) ∧ Below T0 w wr) (fun x9 _ => (intOf x9 + 1).toNat)
  case atStart => exact ⟨n, _, s, hid rfl, by omega, rfl, hid rfl, HS, HTT.out, HP.out, HZ.out, B0.out⟩
  case round =>
    obtain ⟨k, b, sk, hb, hk, rfl, hl, ho, h0, h1, h2, h3⟩ := hrel
    clear HTT HP HZ B0
    have HT0 := hid h0
    have H1 := hid h1
    have H2 := hid h2
    have H3 := hid h3
    clear h0 h1 h2 h3
    have hb' := hb.out
    by_cases h0 : 0 ≤ b
    · obtain ⟨c, rfl⟩ : ∃ c : Nat, b = (c : Int) := ⟨b.toNat, by omega⟩
      have hkc := hid (show k = c + 1 by omega)
      have hc48 : c < 48 := by omega
      clear hb' hb
      obtain ⟨wo, rfl⟩ : ∃ wo : World, wo = wr := ⟨_, rfl⟩
      go_wp2
      go_loop [10, 11] (fun x i => ∃ (j y : Nat), j ≤ c ∧ i = .int .i64 j ∧ x = .int .u64 (y : Int) ∧ Hid (y = p / 2 ^ j) ∧ y < 18446744073709551616) (fun _ i => c - (intOf i).toNat)
      case atStart => exact ⟨0, p, by omega, rfl, rfl, hid (by simp), hp⟩
      case round =>
        obtain ⟨j, y, hj, rfl, rfl, hy, hy64⟩ := hrel
        by_cases hlt : j < c
        · obtain ⟨y2, hy2⟩ : ∃ y2 : Nat, y2 = y / 2 := ⟨_, rfl⟩
          have e2 : (y : Int) / 2 = (y2 : Int) := by omega
          have HY := hid (show y2 = p / 2 ^ (j + 1) by rw [hy2, hy.out, Nat.pow_succ, Nat.div_div_eq_div_mul])
          have hy264 : y2 < 18446744073709551616 := by omega
          clear hy2
          go_wp2
          go_round
          case rel => exact ⟨j + 1, y2, by omega, by go_num, rfl, HY, hy264⟩
          case measure => simp [intOf]; omega
        · have hjc : j = c := by omega
          subst hjc
          have hy' := hy.out
          by_cases hbit : p / 2 ^ j % 2 = 1
          · have t1 : ((y : Int) % 2 == 1) = true := by rw [beq_iff_eq]; omega
            have HL := hid (show leadN p j (sha (flipB sk j)) = leadN p n s by rw [← hl.out, hkc.out, leadN, if_pos hbit])
            obtain ⟨q, hq⟩ : ∃ q, q = j / 8 := ⟨_, rfl⟩
            obtain ⟨r, hr⟩ : ∃ r, r = j % 8 := ⟨_, rfl⟩
            have e8 : (j : Int) / 8 = (q : Int) := by omega
            have er : (j : Int) % 8 = (r : Int) := by omega
            have hq32 : q < 32 := by omega
            have hq32' : (q : Int) < 32 := by omega
            have hr8 : r < 8 := by omega
            have cq : wo.cell? ⟨P, q, none⟩ = some (.int .u8 ((sk.getD q 0 : Nat) : Int)) := by
              rw [cell_of_row _ P q _ _ (0, 0) H1.out, List.getElem?_toArray]; exact nums_get .u8 (by rw [ho.out.1]; exact hq32)
            have fq := frozen_of_row _ P q _ _ H1.out
            have hold := getDlt ho.out.2 (by omega) q
            have ex := hid (show bits .xor .u8 ((sk.getD q 0 : Nat) : Int) ((2 ^ r : Nat) : Int) = ((sk.getD q 0 ^^^ 2 ^ r : Nat) : Int) from u8_xor_nat _ _ hold (pow8_lt hr8))
            have HF := hid (show flipB sk j = sk.set q (sk.getD q 0 ^^^ 2 ^ r) by rw [flipB, ← hq, ← hr])
            generalize sk.getD q 0 = old at *
            clear hbit hq hr hold hy' hy
            go_wp2
            go_loop [12, 13] (fun x i => ∃ (m y : Nat), m ≤ r ∧ i = .int .i64 m ∧ x = .int .u8 (y : Int) ∧ Hid (y = 2 ^ m) ∧ y ≤ 128) (fun _ i => r - (intOf i).toNat)
            case atStart => exact ⟨0, 1, by omega, rfl, rfl, hid rfl, by omega⟩
            case round =>
              obtain ⟨m, y1, hm, rfl, rfl, hy1, hy128⟩ := hrel
              by_cases hlt2 : m < r
              · obtain ⟨y2, hy2⟩ : ∃ y2 : Nat, y2 = 2 * y1 := ⟨_, rfl⟩
                have hy2' : y2 ≤ 128 := by
                  have : y2 = 2 ^ (m + 1) := by rw [hy2, hy1.out, Nat.pow_succ, Nat.mul_comm]
                  have h7 : 2 ^ (m + 1) ≤ 2 ^ 7 := Nat.pow_le_pow_right (by omega) (by omega)
                  omega
                have e2 : 2 * (y1 : Int) = (y2 : Int) := by omega
                have HY := hid (show y2 = 2 ^ (m + 1) by rw [hy2, hy1.out, Nat.pow_succ, Nat.mul_comm])
                clear hy2
                go_wp2
                go_round
                case rel => exact ⟨m + 1, y2, by omega, by go_num, rfl, HY, hy2'⟩
                case measure => simp [intOf]; omega
              · have hmr : m = r := by omega
                subst hmr
                have EX := hid (show bits .xor .u8 (old : Int) (y1 : Int) = ((old ^^^ 2 ^ m : Nat) : Int) by rw [hy1.out]; exact ex.out)
                obtain ⟨V, hV⟩ : ∃ V : Nat, V = old ^^^ 2 ^ m := ⟨_, rfl⟩
                have ev : bits .xor .u8 (old : Int) (y1 : Int) = (V : Int) := by rw [hV]; exact EX.out
                have HV := hid hV
                clear hV ex EX hy1
                go_upto_region 16 with (fail)
                have ST := heap_setCell_same wo P q _ 22 (.int .u8 (V : Int)) H1.out
                have SF := Far.set (H := P) (j := q) (w := wo) (.int .u8 (V : Int))
                have e5 : ((nums .u8 sk).toArray.setIfInBounds q (.int .u8 (V : Int))) = (nums .u8 (flipB sk j)).toArray := by
                  rw [HF.out, HV.out]; simp [nums, List.map_set]
                rw [e5] at ST
                have H5 := hid ST
                have HT5 := hid (heap_far HT0.out SF (by omega))
                have HR5 := hid (heap_far H2.out SF (by omega))
                have B5 := hid (H3.out.trans (SF.below (by omega) (by have := (Array.getElem?_eq_some_iff.1 H1.out).1; omega)))
                clear ST SF e5 cq fq HF HV e8 er hq32 hq32' hr8 t1 ev
                generalize wo.setCell ⟨P, q, none⟩ (.int .u8 (V : Int)) = w5 at *
                have hfo := hid (flipB_ok (b := j) ho.out)
                have hso := hid (sha_ok (flipB sk j))
                have hiS := hid (infoHo hso.out)
                have hsS := hid (show (nums .u8 (flipB sk j)).toArray.size = (nums .u8 (sha (flipB sk j))).toArray.size by simp [hso.out.1, hfo.out.1])
                have hoS := hid (all_oneCell_toArray (nums_oneCell .u8 (sha (flipB sk j))))
                have hPl := (Array.getElem?_eq_some_iff.1 H5.out).1
                refine wp_region_held_drew (S := fun w' => Far P w5 w') (by kernel_rfl) (Far.of ((Below.refl _ _).drew)) (fun hHeld => ?_)
                try simp only [List.size_toArray, List.length_cons, List.length_nil, Nat.reduceAdd, Array.replicate_succ, Array.replicate_zero, List.push_toArray, List.nil_append, List.cons_append]
                refine' wpAnyH_take (i := 0) (oi := { dst := some 48, op := Op.load 34 (Operand.tmp 4), type := 34, pos := "law.go:24", after := #[], guard := none }) (v := _) rfl (by kernel_rfl) (by kernel_rfl) (by kernel_rfl) (fun _ _ _ h => h) (yieldsIf_load_mid (by rfl) _ _ rfl T0 0 rfl (nums .u32 (H0 ++ K0)) _ (fun _ h => row_range' (heap_far HT5.out h (by omega)) htl.out) Tryd.underlying34 rfl hiT.out) hHeld ?_
                (try simp only [Act.put, List.setIfInBounds_toArray, List.set_cons_zero, List.set_cons_succ])
                refine wpAnyH_take (i := 1) (oi := { dst := some 49, op := Op.slice 22 (Operand.tmp 5) none none none, type := 54, pos := "law.go:24", after := #[], guard := none }) (v := ?v1) rfl (by kernel_rfl) (by kernel_rfl) (by kernel_rfl) (fun _ _ _ h => h) (Or.inl ⟨by rfl, ?hy1⟩) hHeld ?_
                case hy1 => (intro w hSw; (try dsimp only at hSw); go_simp; (try with_reducible rfl))
                (try simp only [Act.put, List.setIfInBounds_toArray, List.set_cons_zero, List.set_cons_succ])
                refine wpAnyH_ready (rs := [2]) (by kernel_rfl) (by simp) ?_
                refine AllReadyH.cons (o := { dst := some 50, op := Op.buildSlice 71 1 #[(0, Operand.tmp 49)], type := 71, pos := "law.go:24", after := #[{ on := 1, ground := Ground.data }], guard := none }) rfl (fun K hK => ?_) ?_
                go_simp; (first | refine newZ ?_ | refine newZd ?_); intro wq HQ BQ
                refine hK.out _ _ (by first | exact hHeld.trans (Far.of BQ.out) | exact Far.of BQ.out) (fun hHeld => ?_)
                clear hK K
                (try simp only [List.setIfInBounds_toArray, List.set_cons_zero, List.set_cons_succ])
                refine wpAnyH_ready (rs := [3]) (by kernel_rfl) (by simp) ?_
                refine AllReadyH.cons (o := { dst := some 51, op := Op.call { callee := Callee.value (Operand.func 21), args := #[Operand.tmp 48, Operand.tmp 50], argTypes := #[34, 71] }, type := 22, pos := "law.go:24", after := #[{ on := 0, ground := Ground.data }, { on := 2, ground := Ground.data }], guard := none }) rfl (fun K hK => ?_) ?_
                go_simp; refine (rsum1_walk _ _ _ _ (flipB sk j) _ (row1' HQ.out) (sl_row (by first | exact heap_keep H5.out BQ.out | exact heap_keep (heap_keep H5.out ((Below.refl _ _).drew)) BQ.out) hfo.out.1 (by decide)) hfo.out.2 (by omega)).mono ?_; rintro e wt ⟨rfl, bt⟩; have BT := hid bt; clear bt; have H6 := hid (by first | exact heap_keep (heap_keep H5.out BQ.out) BT.out | exact heap_keep (heap_keep (heap_keep H5.out ((Below.refl _ _).drew)) BQ.out) BT.out); unfold hv
                refine hK.out _ _ (hHeld.trans (Far.of BT.out)) (fun hHeld => ?_)
                clear hK K
                (try simp only [List.setIfInBounds_toArray, List.set_cons_zero, List.set_cons_succ])
                refine wpAnyH_ready (rs := [4]) (by kernel_rfl) (by simp) ?_
                refine AllReadyH.cons (o := { dst := none, op := Op.store 22 (Operand.tmp 5) (Operand.tmp 51), type := 0, pos := "law.go:24", after := #[{ on := 3, ground := Ground.data }, { on := 3, ground := Ground.chain }, { on := 0, ground := Ground.phase }, { on := 1, ground := Ground.phase }, { on := 2, ground := Ground.phase }, { on := 3, ground := Ground.phase }], guard := none }) rfl (fun K hK => ?_) ?_
                rw [if_pos (by rfl)]; refine wp_store_row _ _ _ rfl P (nums .u8 (sha (flipB sk j))).toArray rfl rfl _ _ H6.out hiS.out hsS.out hoS.out ?_
                refine hK.out _ _ (hHeld.trans (far_row _ P _)) (fun hHeld => ?_)
                clear hK K
                (try simp only [List.setIfInBounds_toArray, List.set_cons_zero, List.set_cons_succ])
                refine wpAnyH_done (by kernel_rfl) ?_ _
                rotate_left
                exact AllReadyH.nil
                exact AllReadyH.nil
                exact AllReadyH.nil
                all_goals
                  have H7 := hid (setRow_heap wt P _ (nums .u8 (sha (flipB sk j))).toArray _ _ H6.out)
                  have HT7 := hid (heap_far HT5.out hHeld (by omega))
                  have HR7 := hid (heap_far HR5.out hHeld (by omega))
                  have B7 := hid (B5.out.trans (hHeld.below (by omega) (by omega)))
                  clear hHeld H6
                  generalize World.setRow wt P _ = w7 at *
                  go_wp2
                  go_roundw
                  case rel => exact ⟨j, _, sha (flipB sk j), hid rfl, by have := hkc.out; omega, rfl, HL, hso, HT7.out, H7.out, HR7.out, B7.out⟩
                  case measure => simp only [intOf]; omega
          · have t1 : ((y : Int) % 2 == 1) = false := by rw [beq_eq_false_iff_ne]; omega
            have HL := hid (show leadN p j sk = leadN p n s by rw [← hl.out, hkc.out, leadN, if_neg hbit])
            clear hbit hy hy'
            go_wp2
            go_roundw
            case rel => exact ⟨j, _, sk, hid rfl, by have := hkc.out; omega, rfl, HL, ho, HT0.out, H1.out, H2.out, H3.out⟩
            case measure => simp only [intOf]; omega
    · have hb1 : b = -1 := by omega
      subst hb1
      have hk0 : k = 0 := by omega
      clear hb' hb
      subst hk0
      have hos : H32 (leadN p n s) := leadN_ok HS.out
      have h1 := H1.out
      rw [show sk = leadN p n s from hl.out] at h1
      have HP := hid h1
      have hiA := hid (infoHo hos)
      have hsz := hid (show z.size = (nums .u8 (leadN p n s)).toArray.size by rw [hz.out]; simp [hos.1])
      have hoA := hid (all_oneCell_toArray (nums_oneCell .u8 (leadN p n s)))
      clear h1 hos hl
      go_wp2_with (first | (refine wpList_load_row rfl _ _ rfl P rfl _ _ _ _ HP.out Tryd.underlying22 rfl hiA.out ?_) | (refine wpList_store_row rfl _ _ _ rfl R _ rfl rfl _ _ H2.out hiA.out hsz.out hoA.out ?_))
      refine bodyPost_ret (results_cell_row rfl _ _ R _ (nums .u8 (leadN p n s)).toArray _ _ rfl (setRow_heap wr R _ _ _ _ H2.out) Tryd.underlying22 rfl hiA.out) rfl ?_
      exact ⟨rfl, below_setRow (hT0 ▸ H3.out) (by omega) _⟩
end Go.Proofs.YtnfklnbdebcpiaaDoor

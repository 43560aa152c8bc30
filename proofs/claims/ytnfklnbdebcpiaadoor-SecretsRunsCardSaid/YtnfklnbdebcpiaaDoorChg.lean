/- The walks of At and Get. -/
import Derived.Test.YtnfklnbdebcpiaaDoorChn
namespace Go.Proofs.YtnfklnbdebcpiaaDoor
open Go.RowKit

theorem infoHaZ : (Tryd.prog.info? 23).map (·.size) = some (nums .u8 zero32).toArray.size := by kernel_rfl
theorem oneZ : (nums .u8 zero32).toArray.all (·.oneCell') = true := by kernel_rfl
def TwoRes (X : List Nat) (v : Value) (w : World) (e : Ending) (w' : World) : Prop := e = .returned (.tuple #[hv X, v]) ∧ Below w.heap.size w w'
theorem far_row2 {w0 w : World} {g : Nat} (h : Below w0.heap.size w0 w) (hg : w0.heap.size ≤ g) (cs : Array Value) : Below w0.heap.size w0 (w.setRow g cs) := below_setRow h hg cs
set_option maxRecDepth 100000 in
set_option maxHeartbeats 4000000 in
theorem at_walk (s : List Nat) (p : Nat) (hs : H32 s) (hp : p < 281474976710656) (w : World) (ht : Tabs w) :
    Calls Tryd.prog 9 #[hv s, .int .u64 (p : Int)] w (TwoRes (leadN p 48 s) (.int .i64 0) w) := by
  have HT := hid ht
  have A2 := fun z => alloc2p w (.cells (nums .u8 s).toArray 23) (.cells z 23)
  have t1 : decide ((p : Int) > 281474976710655) = false := by rw [decide_eq_false_iff_not]; omega
  have unH := Tryd.underlying23
  have hiS := hid (infoHl' hs)
  clear ht
  unfold hv
  go_enter Tryd.func9, Tryd.ntmps9
  go_upto_region 1 with (fail)
  generalize hW : World.alloc (World.alloc w _) _ = wb
  replace A2 : ∃ z : Array Value, z.size = 32 ∧ wb.heap[w.heap.size]? = some (.cells (nums .u8 s).toArray 23 (0, 0)) ∧ wb.heap[w.heap.size + 1]? = some (.cells z 23 (0, 0)) ∧ Below w.heap.size w wb := ⟨_, by rfl, hW ▸ (A2 _).1, hW ▸ (A2 _).2.1, hW ▸ (A2 _).2.2.2⟩
  obtain ⟨z, hz, gP, gZ, b0⟩ := A2
  have HZ := hid gZ
  have B0 := hid b0
  have hz := hid hz
  have r0 := row_range gP
  clear hW gP gZ b0
  generalize hR : w.heap.size + 1 = R at *
  go_wp2_with (refine wpList_load_mid rfl _ _ rfl w.heap.size 0 rfl (nums .u8 s) _ r0 unH rfl hiS.out ?_)
  refine (derive_walk s p 48 hs (by omega) (by omega) _ (HT.out.below B0.out)).mono ?_
  rintro e w2 ⟨rfl, b2⟩
  have hlo : H32 (leadN p 48 s) := leadN_ok hs
  have HZ2 := hid (heap_keep HZ.out b2)
  have B2 := hid (bstep B0.out b2)
  have hiA := hid (infoHa hlo)
  have hsz := hid (show z.size = (nums .u8 (leadN p 48 s)).toArray.size by rw [hz.out]; simp [hlo.1])
  have hoA := hid (all_oneCell_toArray (nums_oneCell .u8 (leadN p 48 s)))
  clear b2 r0 hlo
  unfold hv
  go_wp2_with (refine wpList_store_row rfl _ _ _ rfl R _ rfl rfl _ _ HZ2.out hiA.out hsz.out hoA.out ?_)
  refine bodyPost_ret (results_cell_tmp rfl _ _ R _ (nums .u8 (leadN p 48 s)).toArray _ _ _ rfl rfl (setRow_heap w2 R _ _ _ _ HZ2.out) unH rfl hiA.out) rfl ?_
  exact ⟨rfl, below_setRow B2.out (by omega) _⟩
set_option maxRecDepth 100000 in
set_option maxHeartbeats 4000000 in
theorem at_no (s : List Nat) (p : Nat) (hp : 281474976710656 ≤ p) (w : World) :
    Calls Tryd.prog 9 #[hv s, .int .u64 (p : Int)] w (TwoRes zero32 (.int .i64 1) w) := by
  have A2 := fun z => alloc2p w (.cells (nums .u8 s).toArray 23) (.cells z 23)
  have t1 : decide ((p : Int) > 281474976710655) = true := by rw [decide_eq_true_eq]; omega
  have unH := Tryd.underlying23
  have HP := hid hp
  clear hp
  unfold hv
  go_enter Tryd.func9, Tryd.ntmps9
  go_upto_region 1 with (fail)
  generalize hW : World.alloc (World.alloc w _) _ = wb
  replace A2 : ∃ z : Array Value, z.size = 32 ∧ wb.heap[w.heap.size + 1]? = some (.cells z 23 (0, 0)) ∧ Below w.heap.size w wb := ⟨_, by rfl, hW ▸ (A2 _).2.1, hW ▸ (A2 _).2.2.2⟩
  obtain ⟨z, hz, gZ, b0⟩ := A2
  have HZ := hid gZ
  have B0 := hid b0
  have hsz := hid (show z.size = (nums .u8 zero32).toArray.size by rw [hz]; rfl)
  clear hW gZ b0 hz
  generalize hR : w.heap.size + 1 = R at *
  go_wp2_with (refine wpList_store_row rfl _ _ _ rfl R (nums .u8 zero32).toArray rfl rfl _ _ HZ.out infoHaZ hsz.out oneZ ?_)
  refine bodyPost_ret (results_cell_tmp rfl _ _ R _ (nums .u8 zero32).toArray _ _ _ rfl rfl (setRow_heap wb R _ _ _ _ HZ.out) unH rfl infoHaZ) rfl ?_
  exact ⟨rfl, below_setRow B0.out (by omega) _⟩
/-- all that is kept, as one value -/
theorem ChAt.kept {w : World} {cb n : Nat} {K : KM} (h : ChAt w cb K n) : ∃ L : List Value, L.length = 1617 ∧ w.rangeAt cb 0 L ∧ ∀ i, i < 49 → (L.drop (i * 33)).take 33 = kc (K i) := by
  obtain ⟨cs, h1, h2⟩ := h.st
  have hsz := h2.sz
  refine ⟨cs.toList.take 1617, by simp; omega, fun j v hj => ?_, fun i hi => ?_⟩
  · rw [Nat.zero_add, cell_of_row _ cb _ _ _ (0, 0) h1]
    rw [List.getElem?_take] at hj
    split at hj
    · rwa [Array.getElem?_toList] at hj
    · cases hj
  · apply List.ext_getElem?
    intro j
    rw [List.getElem?_take]
    by_cases hj : j < 33
    · rw [if_pos hj, List.getElem?_drop, List.getElem?_take, if_pos (by omega), Array.getElem?_toList]
      have hl := kc_len (h2.ok i hi).2
      have := h2.el i hi j _ (List.getElem?_eq_getElem (by omega))
      rw [this, List.getElem?_eq_getElem (by omega)]
    · rw [if_neg hj, List.getElem?_eq_none (by rw [kc_len (h2.ok i hi).2]; omega)]
theorem run_index_kc {L : List Value} {k : Nat × List Nat} {i : Nat} (hi : i < 49) (hk : (L.drop (i * 33)).take 33 = kc k) (w : World) : (Instr.index 45 (.agg L.toArray) (.int .i64 (i : Int))).run Tryd.prog w = .ok (.agg (kc k).toArray) w := by
  simp [Instr.index, asIntOf, Tryd.runUnderlying45, Tryd.sizeOf44, Tryd.isAgg44, part, Result.andThen, hi, hk]
def hit (K : KM) (n p i : Nat) : Prop := (K i).1 / 2 ^ i = p / 2 ^ i ∧ 281474976710655 - (K i).1 < n
def GetRes (K : KM) (n p : Nat) (w : World) (e : Ending) (w' : World) : Prop := Below w.heap.size w w' ∧
  ((∃ i, i < 49 ∧ p ≤ 281474976710655 ∧ 281474976710655 - p < n ∧ hit K n p i ∧ (∀ j, j < i → ¬ hit K n p j) ∧ e = .returned (.tuple #[hv (leadN p i (K i).2), .bool true])) ∨
   ((281474976710655 < p ∨ n ≤ 281474976710655 - p ∨ ∀ j, j < 49 → ¬ hit K n p j) ∧ e = .returned (.tuple #[hv zero32, .bool false])))
theorem shr_int (p i : Nat) : (p : Int) / 2 ^ i = ((p / 2 ^ i : Nat) : Int) := by rw [Int.natCast_ediv, Int.natCast_pow]; rfl
set_option maxRecDepth 100000 in
set_option maxHeartbeats 8000000 in
theorem get_walk (cb n p : Nat) (Kp : KM) (hp : p < 18446744073709551616) (w : World) (h : ChAt w cb Kp n) (ht : Tabs w) :
    Calls Tryd.prog 15 #[.pointer (some ⟨cb, 0, none⟩), .int .u64 (p : Int)] w (GetRes Kp n p w) := by
  have HT := hid ht
  have HC := hid h
  have hn48 : n ≤ 281474976710656 := by obtain ⟨cs, _, h2⟩ := h.st; exact h2.le
  have A1 := fun z => And.intro (heap_alloc_new w (.cells z 23)) ((Below.refl w.heap.size w).alloc (Nat.le_refl _) (.cells z 23))
  have unH := Tryd.underlying23
  clear h ht
  go_enter Tryd.func15, Tryd.ntmps15
  go_upto_region 1 with (fail)
  generalize hW : World.alloc w _ = w1
  replace A1 : ∃ z : Array Value, z.size = 32 ∧ w1.heap[w.heap.size]? = some (.cells z 23 (0, 0)) ∧ Below w.heap.size w w1 := ⟨_, by rfl, hW ▸ (A1 _).1, hW ▸ (A1 _).2⟩
  obtain ⟨z, hz, gZ, b0⟩ := A1
  have HZ := hid gZ
  have B0 := hid b0
  have hz := hid hz
  have hsz := hid (show z.size = (nums .u8 zero32).toArray.size by rw [hz.out]; rfl)
  have HC1 := hid (HC.out.below b0)
  have hR1 := (Array.getElem?_eq_some_iff.1 gZ).1
  clear hW gZ b0
  generalize hR : w.heap.size = R at *
  have c1 := HC1.out.count
  by_cases hbig : 281474976710655 < p
  · have t1 : decide ((p : Int) > 281474976710655) = true := by rw [decide_eq_true_eq]; omega
    have HB := hid hbig
    clear hbig
    go_wp2_with (refine wpList_store_row rfl _ _ _ rfl R (nums .u8 zero32).toArray rfl rfl _ _ HZ.out infoHaZ hsz.out oneZ ?_)
    refine bodyPost_ret (results_cell_tmp rfl _ _ R _ (nums .u8 zero32).toArray _ _ _ rfl rfl (setRow_heap w1 R _ _ _ _ HZ.out) unH rfl infoHaZ) rfl ?_
    exact ⟨hR ▸ below_setRow B0.out (Nat.le_refl _) _, .inr ⟨.inl HB.out, rfl⟩⟩
  · have t1 : decide ((p : Int) > 281474976710655) = false := by rw [decide_eq_false_iff_not]; omega
    obtain ⟨q, hq⟩ : ∃ q : Nat, q = 281474976710655 - p := ⟨_, rfl⟩
    have eq1 : 281474976710655 - (p : Int) = (q : Int) := by omega
    have HQ := hid hq
    have hp1 : p ≤ 281474976710655 := by omega
    have hq64 : q ≤ 281474976710655 := by omega
    clear hq hbig
    by_cases hqn : q < n
    · go_upto_region 3 with (fail)
      obtain ⟨L, hL, hrg, hel⟩ := HC1.out.kept
      have hiL := hid (show (Tryd.prog.info? 45).map (·.size) = some L.length by rw [hL]; kernel_rfl)
      have HEL := hid hel
      clear c1 hel hL
      go_wp2_with (refine wpList_load_mid rfl _ _ rfl cb 0 rfl L _ hrg Tryd.underlying45 rfl hiL.out ?_)
      clear hrg
      go_loopw [28] (fun x28 wr => ∃ i : Nat, i ≤ 49 ∧ x28 = .int .i64 i ∧ Hid (∀ j, j < i → ¬ hit Kp n p j) ∧ Below w1.heap.size w1 wr) (fun x28 _ => 49 - (intOf x28).toNat)
      case atStart => exact ⟨0, by omega, rfl, hid (fun j hj => by omega), Below.refl _ _⟩
      case round =>
        obtain ⟨i, hi, rfl, hno, hb⟩ := hrel
        have HB := hid hb
        clear hb
        by_cases hlt : i < 49
        · have hix := run_index_kc hlt (HEL.out i hlt)
          have hKi := HC1.out.ok i hlt
          have hz33 : ∀ z : Array Value, z.size = 33 → z.size = (kc (Kp i)).toArray.size := fun z hz => by rw [hz, List.size_toArray, kc_len hKi.2]
          have hiKa := hid (infoKa hKi.2)
          have hoK := hid (all_oneCell_toArray (kc_one (Kp i)))
          go_upto_region 6 with (refine wpList_store_row rfl _ _ _ rfl wr.heap.size (kc (Kp i)).toArray rfl rfl _ _ (heap_alloc_new wr _) hiKa.out (hz33 _ rfl) hoK.out ?_)
          have LA := fun z => laid wr z (kc (Kp i)).toArray 44
          generalize hW : World.setRow _ _ _ = wb
          replace LA := hid (hW ▸ LA _)
          have HBb := hid (HB.out.trans (LA.out.2.mono HB.out.size))
          have RV1 := hid (show wb.rangeAt wr.heap.size 1 (nums .u8 (Kp i).2) from kc_tail (row_range LA.out.1))
          have CV : wb.cell? ⟨wr.heap.size, 0, none⟩ = some (.int .u64 ((Kp i).1 : Int)) := by rw [cell_of_row _ _ 0 _ _ (0, 0) LA.out.1]; rfl
          have CN := (HC1.out.below HBb.out).count
          have hiKi := hid (infoHl' hKi.2)
          have hs2 := hKi.2
          have HS2 := hid hs2
          have hk48 := hKi.1
          clear hW LA hz33 hix hKi hiKa hoK hs2
          generalize wr.heap.size = V at *
          obtain ⟨pl, hpl⟩ : ∃ pl : Nat, pl = (Kp i).1 := ⟨_, rfl⟩
          rw [← hpl] at CV hk48
          obtain ⟨q2, hq2⟩ : ∃ q : Nat, q = 281474976710655 - pl := ⟨_, rfl⟩
          have eq2 : 281474976710655 - (pl : Int) = (q2 : Int) := by omega
          have HPL := hid hpl
          have HQ2 := hid hq2
          clear hpl hq2
          have hw2 : IntKind.u64.wrap (q2 : Int) = (q2 : Int) := by rw [IntKind.wrap_u64]; omega
          have hsh1 := hid (shr_int pl i)
          have hsh2 := hid (shr_int p i)
          by_cases h1 : pl / 2 ^ i = p / 2 ^ i
          · have t2 : ((pl : Int) / 2 ^ i == (p : Int) / 2 ^ i) = true := by rw [hsh1.out, hsh2.out, h1]; simp
            have H1 := hid h1
            clear h1
            by_cases h2 : q2 < n
            · have hh := hid (show hit Kp n p i from ⟨by rw [← HPL.out]; exact H1.out, by rw [← HPL.out, ← HQ2.out]; exact h2⟩)
              have t3 : decide ((q2 : Int) < (n : Int)) = true := by rw [decide_eq_true_eq]; omega
              have t4 : decide (q2 < n) = true := by rw [decide_eq_true_eq]; exact h2
              go_quiet (fail)
              have hbn := below_drewN (Below.refl wb.heap.size wb) nq
              have HBd := hid (HBb.out.trans (hbn.mono HBb.out.size))
              have hHd := hid (HT.out.below (hR ▸ (B0.out.trans (HBd.out.mono (Nat.le_of_lt hR1)))))
              have RV2 := range_keep hbn RV1.out
              clear t2 t3 t4 hw2 CV CN hbn
              generalize wb.drewN nq = wd at *
              go_wp2_with (refine wpList_load_mid rfl _ _ rfl V 1 rfl (nums .u8 (Kp i).2) _ RV2 unH rfl hiKi.out ?_)
              refine (derive_walk (Kp i).2 p i HS2.out (by omega) (by omega) _ hHd.out).mono ?_
              rintro e w6 ⟨rfl, b6⟩
              have HB6 := hid (HBd.out.trans (b6.mono HBd.out.size))
              have HZ6 := hid (heap_keep HZ.out HB6.out)
              have hlo : H32 (leadN p i (Kp i).2) := leadN_ok HS2.out
              have hiA := hid (infoHa hlo)
              have hszA := hid (show z.size = (nums .u8 (leadN p i (Kp i).2)).toArray.size by rw [hz.out]; simp [hlo.1])
              have hoA := hid (all_oneCell_toArray (nums_oneCell .u8 (leadN p i (Kp i).2)))
              clear b6 hlo RV2
              unfold hv
              go_wp2_with (refine wpList_store_row rfl _ _ _ rfl R _ rfl rfl _ _ HZ6.out hiA.out hszA.out hoA.out ?_)
              refine bodyPost_ret (results_cell_tmp rfl _ _ R _ (nums .u8 (leadN p i (Kp i).2)).toArray _ _ _ rfl rfl (setRow_heap w6 R _ _ _ _ HZ6.out) unH rfl hiA.out) rfl ?_
              exact ⟨hR ▸ below_setRow (B0.out.trans (HB6.out.mono (Nat.le_of_lt hR1))) (Nat.le_refl _) _, .inl ⟨i, hlt, hp1, by rw [← HQ.out]; exact hqn, hh.out, hno.out, rfl⟩⟩
            · have hh := hid (show ∀ j, j < i + 1 → ¬ hit Kp n p j from fun j hj h => by
                by_cases hji : j = i
                · subst hji; have := h.2; rw [← HPL.out, ← HQ2.out] at this; exact h2 this
                · exact hno.out j (by omega) h)
              have h2' : n ≤ q2 := by omega
              have t3 : decide ((q2 : Int) < (n : Int)) = false := by rw [decide_eq_false_iff_not]; omega
              have t4 : decide (q2 < n) = false := by rw [decide_eq_false_iff_not]; omega
              clear h2
              go_quiet (fail)
              have HBd := hid (HBb.out.trans ((below_drewN (Below.refl wb.heap.size wb) nq).mono HBb.out.size))
              clear t2 t3 t4 hw2 CV CN
              generalize wb.drewN nq = wd at *
              go_wp2
              go_roundw
              case rel => exact ⟨i + 1, by omega, by go_num, hh, HBd.out⟩
              case measure => simp [intOf]; omega
          · have t2 : ((pl : Int) / 2 ^ i == (p : Int) / 2 ^ i) = false := by rw [hsh1.out, hsh2.out]; exact beq_eq_false_iff_ne.2 (fun h => h1 (Int.ofNat.inj h))
            have hh := hid (show ∀ j, j < i + 1 → ¬ hit Kp n p j from fun j hj h => by
              by_cases hji : j = i
              · subst hji; have := h.1; rw [← HPL.out] at this; exact h1 this
              · exact hno.out j (by omega) h)
            clear h1
            refine wp_region_held_drew (S := fun w' => Below wb.heap.size wb w') (by kernel_rfl) ((Below.refl _ _).drew) (fun hHeld => ?_)
            try simp only [List.size_toArray, List.length_cons, List.length_nil, Nat.reduceAdd, Array.replicate_succ, Array.replicate_zero, List.push_toArray, List.nil_append, List.cons_append]
            refine wpAnyH_take (i := 0) (oi := { dst := some 32, op := Op.fieldAddr 44 (Operand.tmp 7) 0, type := 0, pos := "secrets.go:75", after := #[], guard := none }) (v := ?v1) rfl (by kernel_rfl) (by kernel_rfl) (by kernel_rfl) (fun _ _ _ h => h) (Or.inl ⟨by rfl, ?hy1⟩) hHeld ?_
            case hy1 => (intro w hSw; (try dsimp only at hSw); go_simp; (try with_reducible rfl))
            (try simp only [Act.put, List.setIfInBounds_toArray, List.set_cons_zero, List.set_cons_succ])
            refine wpAnyH_take (i := 1) (oi := { dst := some 33, op := Op.load 24 (Operand.tmp 32), type := 24, pos := "secrets.go:75", after := #[{ on := 0, ground := Ground.data }], guard := none }) (v := .int .u64 (pl : Int)) rfl (by kernel_rfl) (by kernel_rfl) (by kernel_rfl) (fun _ _ _ h => h) (Or.inl ⟨by rfl, fun w h => by have hc := cell_keep h CV; go_simp⟩) hHeld ?_
            (try simp only [Act.put, List.setIfInBounds_toArray, List.set_cons_zero, List.set_cons_succ])
            refine wpAnyH_take (i := 2) (oi := { dst := some 34, op := Op.move (Operand.tmp 6), type := 3, pos := "secrets.go:75", after := #[], guard := none }) (v := ?v2) rfl (by kernel_rfl) (by kernel_rfl) (by kernel_rfl) (fun _ _ _ h => h) (Or.inl ⟨by rfl, ?hy2⟩) hHeld ?_
            case hy2 => (intro w hSw; (try dsimp only at hSw); go_simp; (try with_reducible rfl))
            (try simp only [Act.put, List.setIfInBounds_toArray, List.set_cons_zero, List.set_cons_succ])
            refine wpAnyH_take (i := 3) (oi := { dst := some 35, op := Op.binOp BinOp.shr 24 (Operand.tmp 33) (Operand.tmp 34) 3, type := 24, pos := "secrets.go:75", after := #[{ on := 1, ground := Ground.data }, { on := 2, ground := Ground.data }], guard := none }) (v := ?v3) rfl (by kernel_rfl) (by kernel_rfl) (by kernel_rfl) (fun _ _ _ h => h) (Or.inl ⟨by rfl, ?hy3⟩) hHeld ?_
            case hy3 => (intro w hSw; (try dsimp only at hSw); go_simp; (try with_reducible rfl))
            (try simp only [Act.put, List.setIfInBounds_toArray, List.set_cons_zero, List.set_cons_succ])
            refine wpAnyH_take (i := 4) (oi := { dst := some 36, op := Op.move (Operand.tmp 1), type := 24, pos := "secrets.go:75", after := #[], guard := none }) (v := ?v4) rfl (by kernel_rfl) (by kernel_rfl) (by kernel_rfl) (fun _ _ _ h => h) (Or.inl ⟨by rfl, ?hy4⟩) hHeld ?_
            case hy4 => (intro w hSw; (try dsimp only at hSw); go_simp; (try with_reducible rfl))
            (try simp only [Act.put, List.setIfInBounds_toArray, List.set_cons_zero, List.set_cons_succ])
            refine wpAnyH_take (i := 5) (oi := { dst := some 37, op := Op.move (Operand.tmp 6), type := 3, pos := "secrets.go:75", after := #[], guard := none }) (v := ?v5) rfl (by kernel_rfl) (by kernel_rfl) (by kernel_rfl) (fun _ _ _ h => h) (Or.inl ⟨by rfl, ?hy5⟩) hHeld ?_
            case hy5 => (intro w hSw; (try dsimp only at hSw); go_simp; (try with_reducible rfl))
            (try simp only [Act.put, List.setIfInBounds_toArray, List.set_cons_zero, List.set_cons_succ])
            refine wpAnyH_take (i := 6) (oi := { dst := some 38, op := Op.binOp BinOp.shr 24 (Operand.tmp 36) (Operand.tmp 37) 3, type := 24, pos := "secrets.go:75", after := #[{ on := 4, ground := Ground.data }, { on := 5, ground := Ground.data }], guard := none }) (v := ?v6) rfl (by kernel_rfl) (by kernel_rfl) (by kernel_rfl) (fun _ _ _ h => h) (Or.inl ⟨by rfl, ?hy6⟩) hHeld ?_
            case hy6 => (intro w hSw; (try dsimp only at hSw); go_simp; (try with_reducible rfl))
            (try simp only [Act.put, List.setIfInBounds_toArray, List.set_cons_zero, List.set_cons_succ])
            refine wpAnyH_take (i := 7) (oi := { dst := some 39, op := Op.binOp BinOp.eql 24 (Operand.tmp 35) (Operand.tmp 38) 24, type := 4, pos := "secrets.go:75", after := #[{ on := 3, ground := Ground.data }, { on := 6, ground := Ground.data }], guard := none }) (v := ?v7) rfl (by kernel_rfl) (by kernel_rfl) (by kernel_rfl) (fun _ _ _ h => h) (Or.inl ⟨by rfl, ?hy7⟩) hHeld ?_
            case hy7 => (intro w hSw; (try dsimp only at hSw); go_simp; (try with_reducible rfl))
            (try simp only [Act.put, List.setIfInBounds_toArray, List.set_cons_zero, List.set_cons_succ])
            refine wpAnyH_take (i := 8) (oi := { dst := some 40, op := Op.move (Operand.tmp 39), type := 4, pos := "secrets.go:75", after := #[{ on := 7, ground := Ground.data }], guard := none }) (v := ?v8) rfl (by kernel_rfl) (by kernel_rfl) (by kernel_rfl) (fun _ _ _ h => h) (Or.inl ⟨by rfl, ?hy8⟩) hHeld ?_
            case hy8 => (intro w hSw; (try dsimp only at hSw); go_simp; (try with_reducible rfl))
            (try simp only [Act.put, List.setIfInBounds_toArray, List.set_cons_zero, List.set_cons_succ])
            refine wpAnyH_take (i := 9) (oi := { dst := some 41, op := Op.fieldAddr 44 (Operand.tmp 7) 0, type := 0, pos := "secrets.go:75", after := #[{ on := 8, ground := Ground.guard }], guard := some (8, true) }) (v := undef) rfl (by kernel_rfl) (by kernel_rfl) (by kernel_rfl) (fun _ _ _ h => h) (Or.inr ⟨by rfl, rfl⟩) hHeld ?_
            (try simp only [Act.put, List.setIfInBounds_toArray, List.set_cons_zero, List.set_cons_succ])
            refine wpAnyH_take (i := 10) (oi := { dst := some 42, op := Op.load 24 (Operand.tmp 41), type := 24, pos := "secrets.go:75", after := #[{ on := 9, ground := Ground.data }, { on := 8, ground := Ground.guard }], guard := some (8, true) }) (v := undef) rfl (by kernel_rfl) (by kernel_rfl) (by kernel_rfl) (fun _ _ _ h => h) (Or.inr ⟨by rfl, rfl⟩) hHeld ?_
            (try simp only [Act.put, List.setIfInBounds_toArray, List.set_cons_zero, List.set_cons_succ])
            refine wpAnyH_take (i := 11) (oi := { dst := some 43, op := Op.binOp BinOp.sub 24 (Operand.const (Value.int IntKind.u64 281474976710655)) (Operand.tmp 42) 24, type := 24, pos := "secrets.go:75", after := #[{ on := 10, ground := Ground.data }, { on := 8, ground := Ground.guard }], guard := some (8, true) }) (v := undef) rfl (by kernel_rfl) (by kernel_rfl) (by kernel_rfl) (fun _ _ _ h => h) (Or.inr ⟨by rfl, rfl⟩) hHeld ?_
            (try simp only [Act.put, List.setIfInBounds_toArray, List.set_cons_zero, List.set_cons_succ])
            refine wpAnyH_take (i := 12) (oi := { dst := some 44, op := Op.move (Operand.tmp 0), type := 42, pos := "secrets.go:75", after := #[{ on := 8, ground := Ground.guard }], guard := some (8, true) }) (v := undef) rfl (by kernel_rfl) (by kernel_rfl) (by kernel_rfl) (fun _ _ _ h => h) (Or.inr ⟨by rfl, rfl⟩) hHeld ?_
            (try simp only [Act.put, List.setIfInBounds_toArray, List.set_cons_zero, List.set_cons_succ])
            refine wpAnyH_take (i := 13) (oi := { dst := some 45, op := Op.nilCheck (Operand.tmp 44), type := 0, pos := "secrets.go:75", after := #[{ on := 12, ground := Ground.data }, { on := 8, ground := Ground.guard }], guard := some (8, true) }) (v := undef) rfl (by kernel_rfl) (by kernel_rfl) (by kernel_rfl) (fun _ _ _ h => h) (Or.inr ⟨by rfl, rfl⟩) hHeld ?_
            (try simp only [Act.put, List.setIfInBounds_toArray, List.set_cons_zero, List.set_cons_succ])
            refine wpAnyH_take (i := 14) (oi := { dst := some 46, op := Op.fieldAddr 47 (Operand.tmp 45) 1, type := 0, pos := "secrets.go:75", after := #[{ on := 13, ground := Ground.data }, { on := 8, ground := Ground.guard }], guard := some (8, true) }) (v := undef) rfl (by kernel_rfl) (by kernel_rfl) (by kernel_rfl) (fun _ _ _ h => h) (Or.inr ⟨by rfl, rfl⟩) hHeld ?_
            (try simp only [Act.put, List.setIfInBounds_toArray, List.set_cons_zero, List.set_cons_succ])
            refine wpAnyH_take (i := 15) (oi := { dst := some 47, op := Op.load 24 (Operand.tmp 46), type := 24, pos := "secrets.go:75", after := #[{ on := 14, ground := Ground.data }, { on := 8, ground := Ground.guard }], guard := some (8, true) }) (v := undef) rfl (by kernel_rfl) (by kernel_rfl) (by kernel_rfl) (fun _ _ _ h => h) (Or.inr ⟨by rfl, rfl⟩) hHeld ?_
            (try simp only [Act.put, List.setIfInBounds_toArray, List.set_cons_zero, List.set_cons_succ])
            refine wpAnyH_take (i := 16) (oi := { dst := some 48, op := Op.binOp BinOp.lss 24 (Operand.tmp 43) (Operand.tmp 47) 24, type := 4, pos := "secrets.go:75", after := #[{ on := 11, ground := Ground.data }, { on := 15, ground := Ground.data }, { on := 8, ground := Ground.guard }], guard := some (8, true) }) (v := undef) rfl (by kernel_rfl) (by kernel_rfl) (by kernel_rfl) (fun _ _ _ h => h) (Or.inr ⟨by rfl, rfl⟩) hHeld ?_
            (try simp only [Act.put, List.setIfInBounds_toArray, List.set_cons_zero, List.set_cons_succ])
            refine wpAnyH_take (i := 17) (oi := { dst := some 49, op := Op.pick (Operand.tmp 40) (Operand.tmp 48) (Operand.const (Value.bool false)), type := 4, pos := "secrets.go:75", after := #[{ on := 8, ground := Ground.data }, { on := 16, ground := Ground.data }], guard := none }) (v := ?v9) rfl (by kernel_rfl) (by kernel_rfl) (by kernel_rfl) (fun _ _ _ h => h) (Or.inl ⟨by rfl, ?hy9⟩) hHeld ?_
            case hy9 => (intro w hSw; (try dsimp only at hSw); go_simp; (try with_reducible rfl))
            (try simp only [Act.put, List.setIfInBounds_toArray, List.set_cons_zero, List.set_cons_succ])
            refine wpAnyH_done (by kernel_rfl) ?_ _
            rotate_left
            have HBd := hid (HBb.out.trans (hHeld.mono HBb.out.size))
            clear t2 hw2 CV CN hHeld
            generalize wb.drew = wd at *
            go_wp2
            go_roundw
            case rel => exact ⟨i + 1, by omega, by go_num, hh, HBd.out⟩
            case measure => simp [intOf]; omega
        · have hi49 : i = 49 := by omega
          have HZ6 := hid (heap_keep HZ.out HB.out)
          rw [hi49] at hno
          go_wp2_with (refine wpList_store_row rfl _ _ _ rfl R (nums .u8 zero32).toArray rfl rfl _ _ HZ6.out infoHaZ hsz.out oneZ ?_)
          refine bodyPost_ret (results_cell_tmp rfl _ _ R _ (nums .u8 zero32).toArray _ _ _ rfl rfl (setRow_heap wr R _ _ _ _ HZ6.out) unH rfl infoHaZ) rfl ?_
          exact ⟨hR ▸ below_setRow (B0.out.trans (HB.out.mono (Nat.le_of_lt hR1))) (Nat.le_refl _) _, .inr ⟨.inr (.inr hno.out), rfl⟩⟩
    · have hqn' : n ≤ q := by omega
      clear hqn
      go_wp2_with (refine wpList_store_row rfl _ _ _ rfl R (nums .u8 zero32).toArray rfl rfl _ _ HZ.out infoHaZ hsz.out oneZ ?_)
      refine bodyPost_ret (results_cell_tmp rfl _ _ R _ (nums .u8 zero32).toArray _ _ _ rfl rfl (setRow_heap w1 R _ _ _ _ HZ.out) unH rfl infoHaZ) rfl ?_
      exact ⟨hR ▸ below_setRow B0.out (Nat.le_refl _) _, .inr ⟨.inr (.inl (by rw [← HQ.out]; exact hqn')), rfl⟩⟩
end Go.Proofs.YtnfklnbdebcpiaaDoor

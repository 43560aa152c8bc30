/- The walk of the statement ShaTags. -/
import Derived.Test.YtpncdgogefhjlaaDoorTagN
import Derived.Test.YtpncdgogefhjlaaDoorShaL
import Derived.Test.YtpncdgogefhjlaaDoorOpenG
import Derived.Test.YtpncdgogefhjlaaDoorZero
namespace Go.Proofs.YtpncdgogefhjlaaDoor
open Go.RowKit

theorem usesN_walk (w : World) : Calls Tryd.prog 18 #[.pointer none] w fun e w' => e = .returned (.int .i64 0) ∧ w' = w := by
  go_enter Tryd.func18, Tryd.ntmps18
  go_wp2
  go_ret
  exact ⟨rfl, rfl⟩
set_option maxRecDepth 100000 in
set_option maxHeartbeats 1000000 in
theorem tsumN_walk (v : Value) (w : World) : Calls Tryd.prog 19 #[.pointer none, v] w fun e w' => e = .returned (hv (List.replicate 32 0)) ∧ Below w.heap.size w w' := by
  have A2 := fun z => alloc2p w (.cells #[.pointer none] 44) (.cells z 26)
  have hiA : (Tryd.prog.info? 26).map (·.size) = some (nums .u8 (List.replicate 32 0)).toArray.size := by kernel_rfl
  have hoA := hid (all_oneCell_toArray (nums_oneCell .u8 (List.replicate 32 0)))
  go_enter Tryd.func19, Tryd.ntmps19
  go_wp2_with (refine wpList_store_row rfl _ _ _ rfl (w.heap.size + 1) (nums .u8 (List.replicate 32 0)).toArray rfl rfl _ _ (A2 _).2.1 hiA rfl hoA.out ?_)
  refine bodyPost_ret (results_cell_row rfl _ _ (w.heap.size + 1) _ (nums .u8 (List.replicate 32 0)).toArray _ _ rfl (setRow_heap _ (w.heap.size + 1) _ _ _ _ (A2 _).2.1) Tryd.underlying26 rfl hiA) rfl ?_
  exact ⟨rfl, below_setRow (A2 _).2.2.2 (by omega) _⟩
theorem and7 (n : Int) : bits .and .i64 n 7 = n % 8 := by
  have h127 : (BitVec.ofInt 64 7).toNat = 2 ^ 3 - 1 := by decide
  have key : (BitVec.ofInt 64 n &&& BitVec.ofInt 64 7).toNat = (n % ((2 ^ 64 : Nat) : Int)).toNat % 2 ^ 3 := by
    rw [BitVec.toNat_and, BitVec.toNat_ofInt, h127, Nat.and_two_pow_sub_one_eq_mod]
  show IntKind.i64.wrap ((BitVec.ofInt 64 n &&& BitVec.ofInt 64 7).toNat : Nat) = n % 8
  rw [key, IntKind.wrap_i64]
  omega
def tri (K1 : Nat) (D : List Nat) (av : Option Addr) (cv : Nat) (FL : List Nat) : List BS := [⟨some ⟨K1, 0, none⟩, 32, D⟩, ⟨some ⟨K1, 0, none⟩, 32, D⟩, ⟨av, cv, FL⟩]
theorem flat_tri (K1 : Nat) (D : List Nat) (av : Option Addr) (cv : Nat) (FL : List Nat) : flat (tri K1 D av cv FL) = D ++ (D ++ FL) := by simp [tri, flat]
theorem parts3 {w W : World} {p K1 : Nat} {D FL : List Nat} {av : Option Addr} {cv : Nat} {T : TypeId} (hp : W.heap[p]? = some (.cells #[.slice (some ⟨K1, 0, none⟩) 32 32, .slice (some ⟨K1, 0, none⟩) 32 32, .slice av FL.length cv] T (0, 0))) (hD : D.length = 32)
    (hg : ∀ l ∈ tri K1 D av cv FL, l.good w) (hb : Below w.heap.size w W) : Parts W (some ⟨p, 0, none⟩) 3 3 (tri K1 D av cv FL) := by
  refine ⟨⟨rfl, Nat.le_refl _, by decide, (fun e => by cases e), p, 0, fun _ => rfl, fun j u hu => ?_⟩, rfl, fun l hl => (hg l hl).below hb⟩
  rw [Nat.zero_add, cell_of_row _ p _ _ T (0, 0) hp]
  simp only [tri, List.flatMap_cons, List.flatMap_nil, BS.cells, hD] at hu
  match j, hu with
  | 0, hu => simpa using hu
  | 1, hu => simpa using hu
  | 2, hu => simpa using hu
  | j + 3, hu => simp at hu
set_option maxRecDepth 100000 in
set_option maxHeartbeats 8000000 in
theorem lawTags (s : ByteArray) (a : Option Addr) (n cap : Nat) (ls : List BS) (q : Int) (w : World) (h : Parts w a n cap ls) (ht : Tabs w) :
    Calls Tryd.prog 7 #[.string s, .slice a n cap, .int .i64 q] w fun e w' => e = .returned (.bool true) ∧ Below w.heap.size w w' := by
  have HL := hid h.2.1
  have HI := hid h
  have HT := hid ht
  have HX := hid (fun l hl => (h.2.2 l hl).2.1)
  clear h ht
  go_enter Tryd.func7, Tryd.ntmps7
  go_wp2_with fail
  refine (head_walk _ HT.out).mono ?_
  rintro e w1 ⟨rfl, b1⟩
  have HB1 := hid b1
  clear b1
  by_cases hs : s.size ≤ 200
  · by_cases hn : n ≤ 20
    · have t0 : decide ((s.size : Int) > 200) = false := by rw [decide_eq_false_iff_not]; omega
      have t1 : decide ((n : Int) > 20) = false := by rw [decide_eq_false_iff_not]; omega
      have bal := (Below.refl w1.heap.size w1).alloc (Nat.le_refl _) (.cells #[] 5)
      have O0 := hid (World.ownsRow_made (base := w1.heap.size) (e := 5) (size := 1) w1 #[] 0 (Nat.le_refl _) (by simp) (by simp))
      have HB3 := hid (HB1.out.trans (bal.mono HB1.out.size))
      have HS3 := hid bal.size
      clear bal
      go_wp2
      go_loopw [7, 28] (fun x7 x28 wr => ∃ (i : Nat) (v : Value), i ≤ n ∧ x28 = .int .i64 i ∧ v = x7 ∧ Below w.heap.size w wr ∧ w1.heap.size ≤ wr.heap.size ∧ (flat (ls.take i)).length ≤ 500 * i ∧ wr.ownsRow w1.heap.size 5 1 v (flat (ls.take i)).length (nums .u8 (flat (ls.take i)))) (fun _ x28 _ => n - (intOf x28).toNat)
      case atStart => exact ⟨0, _, by omega, rfl, rfl, HB3.out, HS3.out, by simp [flat], O0.out⟩
      case round =>
        obtain ⟨i, v, hi, rfl, rfl, hb, hbs, hle, hown⟩ := hrel
        clear O0 HB3 HS3 t0 t1
        have HB := hid hb
        have HO := hid hown
        obtain ⟨av, cv, rfl, rv⟩ := Rd.of_owns hown
        have SV := hid (show Sl .u8 wr av (flat (ls.take i)).length cv (flat (ls.take i)) from rv)
        clear hown rv
        by_cases hlt : i < n
        · obtain ⟨l, hl⟩ := bget_some HL.out hlt
          obtain ⟨b, off, rfl, c1, gd⟩ := (HI.out.below hb).cells hl
          have HGD := hid gd
          have HE := hid (flat_take_succ hl)
          clear gd hl hb
          by_cases hl5 : l.v.length ≤ 500
          · have t5 : decide ((l.v.length : Int) > 500) = false := by rw [decide_eq_false_iff_not]; omega
            have hle2 : (flat (ls.take (i + 1))).length ≤ 500 * (i + 1) := by rw [HE.out, List.length_append]; omega
            have hleN := hid hle2
            clear hle2
            go_wp2_with (at_builtin; refine wpList_cat rfl _ _ 22 rfl tyBs w1.heap.size HO.out rfl rfl HGD.out.1 (nums_oneCell _ _) ?c1 ?c2 ?c3 ?_)
            case c1 => omega
            case c2 => unfold maxLen; omega
            case c3 => exact hbs
            intro v4 w4 own4 b4 hs4 _
            rw [nums_append, ← HE.out] at own4
            have OW := hid (show w4.ownsRow w1.heap.size 5 1 v4 (flat (ls.take (i + 1))).length (nums .u8 (flat (ls.take (i + 1)))) by rw [show (flat (ls.take (i + 1))).length = (flat (ls.take i)).length + l.v.length by rw [HE.out, List.length_append]]; exact own4)
            have B4 := hid (HB.out.trans (b4.mono HB1.out.size))
            have hbs4 := hid (Nat.le_trans hbs hs4)
            clear own4 b4 hs4
            go_wp2
            go_roundw
            case rel => exact ⟨i + 1, v4, by omega, by go_num, rfl, B4.out, hbs4.out, hleN.out, OW.out⟩
            case measure => simp [intOf]; omega
          · have t5 : decide ((l.v.length : Int) > 500) = true := by rw [decide_eq_true_eq]; omega
            go_wp2
            go_ret
            exact ⟨rfl, HB.out⟩
        · have hge : n ≤ i := by omega
          have et : ls.take i = ls := List.take_of_length_le (by rw [HL.out]; exact hge)
          rw [et] at SV hle
          rw [et]
          have hFL : (flat ls).length ≤ 20000 := by omega
          have hFb := hid (flat_lt (ls := ls) fun l hl => HX.out l hl)
          have HTr := hid (HT.out.below HB.out)
          clear et hle hb HO
          go_wp2_with fail
          refine (newtag_walk s wr).mono ?_
          rintro e w2 ⟨g, cur, rfl, hg, hG, hN, b2⟩
          have HB2 := hid (bstep HB.out b2)
          have SV2 := hid (SV.out.below b2)
          have HT2 := hid (HT.out.below HB2.out)
          have hgw := hid (show w.heap.size ≤ g by have := HB.out.size; omega)
          have n0 := hid (show g ≠ 0 by have := World.block_lt_of_cell? wr _ (HTr.out.1 0 (by decide)); simp at this; omega)
          have n1 := hid (show g ≠ 1 by have := World.block_lt_of_cell? wr _ (HTr.out.2 0 (by decide)); simp at this; omega)
          have G2 := hid hG
          have N2 := hid hN
          clear b2 hg hG hN HB SV HTr
          go_wp2_with fail
          refine (uses_walk g 0 cur _ w2 G2.out N2.out.us).mono ?_
          rintro e w3 ⟨rfl, rfl⟩
          have hcv := fun (W : World) => run_bytes_of_string (P := Tryd.prog) W 9 22 5 s Tryd.underlying9 Tryd.underlying22 Tryd.underlying5
          have L1 := hid (str_part w3 s 5 22 ((bytesRow s (grownCap w3 s.size 0 5)).size, (bytesRow s (grownCap w3 s.size 0 5)).size + 1) (by omega))
          go_wp2_with (fail)
          refine (sum1_walk _ _ _ _ (bl s) _ L1.out.1 L1.out.2.1 (bl_lt s) (by omega) (HT2.out.below L1.out.2.2)).mono ?_
          rintro e w4 ⟨rfl, b4⟩
          have B4 := hid (bstep L1.out.2.2 b4)
          have hdl := sha_len (bl s)
          have hdb := hid (sha_lt (bl s))
          have hTH : tagH s = sha (bl s) ++ sha (bl s) := rfl
          have HTH := hid hTH
          clear hTH
          generalize sha (bl s) = D at *
          have hiA : (Tryd.prog.info? 26).map (·.size) = some (nums .u8 D).toArray.size := by rw [List.size_toArray, nums_length, hdl]; kernel_rfl
          have h32 : ∀ z : Array Value, z.size = 32 → z.size = (nums .u8 D).toArray.size := fun z hz => by rw [hz]; simp [hdl]
          have hoA := hid (all_oneCell_toArray (nums_oneCell .u8 D))
          unfold hv
          clear L1 b4
          go_upto_region 17 with (refine wpList_store_row rfl _ _ _ rfl w4.heap.size (nums .u8 D).toArray rfl rfl _ _ (heap_alloc_new w4 _) hiA (h32 _ rfl) hoA.out ?_)
          have LA := fun z => laid w4 z (nums .u8 D).toArray 26
          generalize hW : World.setRow _ _ _ = wb
          replace LA := hid (hW ▸ LA _)
          have B5 := hid (bstep B4.out LA.out.2)
          have HTb := hid (HT2.out.below B5.out)
          have SVb := hid (SV2.out.below B5.out)
          have Gb := hid (heap_keep G2.out B5.out)
          have KD := hid LA.out.1
          have hwb := hid (bstep HB2.out B5.out)
          clear hW LA B4
          generalize hK : w4.heap.size = K1 at *
          have HALL := hid (show ∀ l ∈ tri K1 D av cv (flat ls), l.good wb by
            intro l hl
            simp only [tri, List.mem_cons, List.not_mem_nil, or_false] at hl
            have hd : BS.good wb ⟨some ⟨K1, 0, none⟩, 32, D⟩ := ⟨by rw [hdl]; exact sl_arr KD.out hdl, hdb.out, by rw [hdl]; decide⟩
            rcases hl with rfl | rfl | rfl
            · exact hd
            · exact hd
            · exact ⟨SVb.out, hFb.out, by show (flat ls).length ≤ _; omega⟩)
          have hP3 := hid (fun (W : World) (p : Nat) (T : TypeId) (hp : W.heap[p]? = some (.cells #[.slice (some ⟨K1, 0, none⟩) 32 32, .slice (some ⟨K1, 0, none⟩) 32 32, .slice av (flat ls).length cv] T (0, 0))) (hb : Below wb.heap.size wb W) => parts3 hp hdl HALL.out hb)
          have HL3 := hid (show (flat (tri K1 D av cv (flat ls))).length < 2305843009213693952 by rw [flat_tri, List.length_append, List.length_append, hdl]; omega)
          have hiW := hid (show (Tryd.prog.info? 26).map (·.size) = some (nums .u8 (sha (flat (tri K1 D av cv (flat ls))))).toArray.size by rw [List.size_toArray, nums_length, sha_len]; kernel_rfl)
          have hzW := hid (show ∀ z : Array Value, z.size = 32 → z.size = (nums .u8 (sha (flat (tri K1 D av cv (flat ls))))).toArray.size from fun z hz => by rw [hz]; simp [sha_len])
          have hoW := hid (all_oneCell_toArray (nums_oneCell .u8 (sha (flat (tri K1 D av cv (flat ls))))))
          clear hiA h32 hoA hK
          generalize hFLL : flat ls = FL at *
          refine wp_region_held_drew (S := fun w' => Below wb.heap.size wb w') (by kernel_rfl) ((Below.refl _ _).drew) (fun hHeld => ?_)
          try simp only [List.size_toArray, List.length_cons, List.length_nil, Nat.reduceAdd, Array.replicate_succ, Array.replicate_zero, List.push_toArray, List.nil_append, List.cons_append]
          refine wpAnyH_take (i := 0) (oi := { dst := some 52, op := Op.slice 26 (Operand.tmp 11) none none none, type := 22, pos := "law.go:77", after := #[], guard := none }) (v := ?v3001) rfl (by kernel_rfl) (by kernel_rfl) (by kernel_rfl) (fun _ _ _ h => h) (Or.inl ⟨by rfl, ?hy3001⟩) hHeld ?_
          case hy3001 => (intro w hSw; (try dsimp only at hSw); go_simp; (try with_reducible rfl))
          (try simp only [Act.put, List.setIfInBounds_toArray, List.set_cons_zero, List.set_cons_succ])
          refine wpAnyH_take (i := 1) (oi := { dst := some 53, op := Op.slice 26 (Operand.tmp 11) none none none, type := 22, pos := "law.go:77", after := #[], guard := none }) (v := ?v3002) rfl (by kernel_rfl) (by kernel_rfl) (by kernel_rfl) (fun _ _ _ h => h) (Or.inl ⟨by rfl, ?hy3002⟩) hHeld ?_
          case hy3002 => (intro w hSw; (try dsimp only at hSw); go_simp; (try with_reducible rfl))
          (try simp only [Act.put, List.setIfInBounds_toArray, List.set_cons_zero, List.set_cons_succ])
          refine wpAnyH_take (i := 2) (oi := { dst := some 54, op := Op.move (Operand.tmp 7), type := 22, pos := "law.go:77", after := #[], guard := none }) (v := ?v3003) rfl (by kernel_rfl) (by kernel_rfl) (by kernel_rfl) (fun _ _ _ h => h) (Or.inl ⟨by rfl, ?hy3003⟩) hHeld ?_
          case hy3003 => (intro w hSw; (try dsimp only at hSw); go_simp; (try with_reducible rfl))
          (try simp only [Act.put, List.setIfInBounds_toArray, List.set_cons_zero, List.set_cons_succ])
          refine wpAnyH_ready (rs := [3, 5]) (by kernel_rfl) (by simp) ?_
          refine AllReadyH.cons (o := { dst := some 55, op := Op.buildSlice 38 3 #[(0, Operand.tmp 52), (1, Operand.tmp 53), (2, Operand.tmp 54)], type := 38, pos := "law.go:77", after := #[{ on := 0, ground := Ground.data }, { on := 1, ground := Ground.data }, { on := 2, ground := Ground.data }], guard := none }) rfl (fun K hK => ?_) ?_
          go_simp; (first | refine newZ ?_ | refine newZd ?_); intro wp hp bp; have HP := hid hp; have BP := hid bp; clear hp bp
          refine hK.out _ _ (by first | exact hHeld.trans (BP.out.mono hHeld.size) | exact BP.out) (fun hHeld => ?_)
          clear hK K
          (try simp only [List.setIfInBounds_toArray, List.set_cons_zero, List.set_cons_succ])
          refine wpAnyH_ready (rs := [4, 5]) (by kernel_rfl) (by simp) ?_
          refine AllReadyH.cons (o := { dst := some 56, op := Op.call { callee := Callee.value (Operand.func 10), args := #[Operand.tmp 55], argTypes := #[38] }, type := 26, pos := "law.go:77", after := #[{ on := 3, ground := Ground.data }], guard := none }) rfl (fun K hK => ?_) ?_
          go_simp; (first | (refine (sum_walk _ 3 3 (tri K1 D av cv FL) _ (hP3.out _ _ _ HP.out hHeld) HL3.out (HTb.out.below hHeld)).mono ?_) | (refine (sum_walk _ 3 3 (tri K1 D av cv FL) _ (hP3.out _ _ _ (heap_keep HP.out ba.out) hHeld) HL3.out (HTb.out.below hHeld)).mono ?_)); rintro e wq ⟨rfl, bq⟩; have BQ := hid bq; clear bq
          refine hK.out _ _ (by first | exact hHeld.trans (BQ.out.mono hHeld.size) | exact BQ.out) (fun hHeld => ?_)
          clear hK K
          (try simp only [List.setIfInBounds_toArray, List.set_cons_zero, List.set_cons_succ])
          refine wpAnyH_ready (rs := [5]) (by kernel_rfl) (by simp) ?_
          refine AllReadyH.cons (o := { dst := some 12, op := Op.alloc 26, type := 0, pos := "law.go:77", after := #[], guard := none }) rfl (fun K hK => ?_) ?_
          go_simp; (first | refine newZ ?_ | refine newZd ?_); intro wa ha ba
          refine hK.out _ _ (by first | exact hHeld.trans (ba.out.mono hHeld.size) | exact ba.out) (fun hHeld => ?_)
          clear hK K
          (try simp only [List.setIfInBounds_toArray, List.set_cons_zero, List.set_cons_succ])
          refine wpAnyH_ready (rs := [6]) (by kernel_rfl) (by simp) ?_
          refine AllReadyH.cons (o := { dst := none, op := Op.store 26 (Operand.tmp 12) (Operand.tmp 56), type := 0, pos := "law.go:77", after := #[{ on := 5, ground := Ground.data }, { on := 4, ground := Ground.data }, { on := 4, ground := Ground.chain }, { on := 0, ground := Ground.phase }, { on := 1, ground := Ground.phase }, { on := 2, ground := Ground.phase }, { on := 3, ground := Ground.phase }, { on := 4, ground := Ground.phase }, { on := 5, ground := Ground.phase }], guard := none }) rfl (fun K hK => ?_) ?_
          rw [if_pos (by rfl)]; refine wp_store_row _ _ _ rfl _ (nums .u8 (sha (flat (tri K1 D av cv FL)))).toArray rfl rfl _ _ (by first | exact ha.out | exact heap_keep ha.out BQ.out | exact heap_keep (heap_keep ha.out BP.out) BQ.out) hiW.out (hzW.out _ rfl) hoW.out ?_
          refine hK.out _ _ (below_setRow hHeld (by first | exact Nat.le_refl _ | exact BP.out.size | exact BQ.out.size | exact Nat.le_trans BP.out.size BQ.out.size | exact hHeld.size) _) (fun hHeld => ?_)
          clear hK K
          (try simp only [List.setIfInBounds_toArray, List.set_cons_zero, List.set_cons_succ])
          refine wpAnyH_done (by kernel_rfl) ?_ _
          rotate_left
          exact AllReadyH.nil
          exact AllReadyH.nil
          refine AllReadyH.cons (o := { dst := some 12, op := Op.alloc 26, type := 0, pos := "law.go:77", after := #[], guard := none }) rfl (fun K hK => ?_) ?_
          go_simp; (first | refine newZ ?_ | refine newZd ?_); intro wa ha ba
          refine hK.out _ _ (by first | exact hHeld.trans (ba.out.mono hHeld.size) | exact ba.out) (fun hHeld => ?_)
          clear hK K
          (try simp only [List.setIfInBounds_toArray, List.set_cons_zero, List.set_cons_succ])
          refine wpAnyH_ready (rs := [4]) (by kernel_rfl) (by simp) ?_
          refine AllReadyH.cons (o := { dst := some 56, op := Op.call { callee := Callee.value (Operand.func 10), args := #[Operand.tmp 55], argTypes := #[38] }, type := 26, pos := "law.go:77", after := #[{ on := 3, ground := Ground.data }], guard := none }) rfl (fun K hK => ?_) ?_
          go_simp; (first | (refine (sum_walk _ 3 3 (tri K1 D av cv FL) _ (hP3.out _ _ _ HP.out hHeld) HL3.out (HTb.out.below hHeld)).mono ?_) | (refine (sum_walk _ 3 3 (tri K1 D av cv FL) _ (hP3.out _ _ _ (heap_keep HP.out ba.out) hHeld) HL3.out (HTb.out.below hHeld)).mono ?_)); rintro e wq ⟨rfl, bq⟩; have BQ := hid bq; clear bq
          refine hK.out _ _ (by first | exact hHeld.trans (BQ.out.mono hHeld.size) | exact BQ.out) (fun hHeld => ?_)
          clear hK K
          (try simp only [List.setIfInBounds_toArray, List.set_cons_zero, List.set_cons_succ])
          refine wpAnyH_ready (rs := [6]) (by kernel_rfl) (by simp) ?_
          refine AllReadyH.cons (o := { dst := none, op := Op.store 26 (Operand.tmp 12) (Operand.tmp 56), type := 0, pos := "law.go:77", after := #[{ on := 5, ground := Ground.data }, { on := 4, ground := Ground.data }, { on := 4, ground := Ground.chain }, { on := 0, ground := Ground.phase }, { on := 1, ground := Ground.phase }, { on := 2, ground := Ground.phase }, { on := 3, ground := Ground.phase }, { on := 4, ground := Ground.phase }, { on := 5, ground := Ground.phase }], guard := none }) rfl (fun K hK => ?_) ?_
          rw [if_pos (by rfl)]; refine wp_store_row _ _ _ rfl _ (nums .u8 (sha (flat (tri K1 D av cv FL)))).toArray rfl rfl _ _ (by first | exact ha.out | exact heap_keep ha.out BQ.out | exact heap_keep (heap_keep ha.out BP.out) BQ.out) hiW.out (hzW.out _ rfl) hoW.out ?_
          refine hK.out _ _ (below_setRow hHeld (by first | exact Nat.le_refl _ | exact BP.out.size | exact BQ.out.size | exact Nat.le_trans BP.out.size BQ.out.size | exact hHeld.size) _) (fun hHeld => ?_)
          clear hK K
          (try simp only [List.setIfInBounds_toArray, List.set_cons_zero, List.set_cons_succ])
          refine wpAnyH_done (by kernel_rfl) ?_ _
          rotate_left
          exact AllReadyH.nil
          exact AllReadyH.nil
          exact AllReadyH.nil
          refine AllReadyH.cons (o := { dst := some 12, op := Op.alloc 26, type := 0, pos := "law.go:77", after := #[], guard := none }) rfl (fun K hK => ?_) ?_
          go_simp; (first | refine newZ ?_ | refine newZd ?_); intro wa ha ba
          refine hK.out _ _ (by first | exact hHeld.trans (ba.out.mono hHeld.size) | exact ba.out) (fun hHeld => ?_)
          clear hK K
          (try simp only [List.setIfInBounds_toArray, List.set_cons_zero, List.set_cons_succ])
          refine wpAnyH_ready (rs := [3]) (by kernel_rfl) (by simp) ?_
          refine AllReadyH.cons (o := { dst := some 55, op := Op.buildSlice 38 3 #[(0, Operand.tmp 52), (1, Operand.tmp 53), (2, Operand.tmp 54)], type := 38, pos := "law.go:77", after := #[{ on := 0, ground := Ground.data }, { on := 1, ground := Ground.data }, { on := 2, ground := Ground.data }], guard := none }) rfl (fun K hK => ?_) ?_
          go_simp; (first | refine newZ ?_ | refine newZd ?_); intro wp hp bp; have HP := hid hp; have BP := hid bp; clear hp bp
          refine hK.out _ _ (by first | exact hHeld.trans (BP.out.mono hHeld.size) | exact BP.out) (fun hHeld => ?_)
          clear hK K
          (try simp only [List.setIfInBounds_toArray, List.set_cons_zero, List.set_cons_succ])
          refine wpAnyH_ready (rs := [4]) (by kernel_rfl) (by simp) ?_
          refine AllReadyH.cons (o := { dst := some 56, op := Op.call { callee := Callee.value (Operand.func 10), args := #[Operand.tmp 55], argTypes := #[38] }, type := 26, pos := "law.go:77", after := #[{ on := 3, ground := Ground.data }], guard := none }) rfl (fun K hK => ?_) ?_
          go_simp; (first | (refine (sum_walk _ 3 3 (tri K1 D av cv FL) _ (hP3.out _ _ _ HP.out hHeld) HL3.out (HTb.out.below hHeld)).mono ?_) | (refine (sum_walk _ 3 3 (tri K1 D av cv FL) _ (hP3.out _ _ _ (heap_keep HP.out ba.out) hHeld) HL3.out (HTb.out.below hHeld)).mono ?_)); rintro e wq ⟨rfl, bq⟩; have BQ := hid bq; clear bq
          refine hK.out _ _ (by first | exact hHeld.trans (BQ.out.mono hHeld.size) | exact BQ.out) (fun hHeld => ?_)
          clear hK K
          (try simp only [List.setIfInBounds_toArray, List.set_cons_zero, List.set_cons_succ])
          refine wpAnyH_ready (rs := [6]) (by kernel_rfl) (by simp) ?_
          refine AllReadyH.cons (o := { dst := none, op := Op.store 26 (Operand.tmp 12) (Operand.tmp 56), type := 0, pos := "law.go:77", after := #[{ on := 5, ground := Ground.data }, { on := 4, ground := Ground.data }, { on := 4, ground := Ground.chain }, { on := 0, ground := Ground.phase }, { on := 1, ground := Ground.phase }, { on := 2, ground := Ground.phase }, { on := 3, ground := Ground.phase }, { on := 4, ground := Ground.phase }, { on := 5, ground := Ground.phase }], guard := none }) rfl (fun K hK => ?_) ?_
          rw [if_pos (by rfl)]; refine wp_store_row _ _ _ rfl _ (nums .u8 (sha (flat (tri K1 D av cv FL)))).toArray rfl rfl _ _ (by first | exact ha.out | exact heap_keep ha.out BQ.out | exact heap_keep (heap_keep ha.out BP.out) BQ.out) hiW.out (hzW.out _ rfl) hoW.out ?_
          refine hK.out _ _ (below_setRow hHeld (by first | exact Nat.le_refl _ | exact BP.out.size | exact BQ.out.size | exact Nat.le_trans BP.out.size BQ.out.size | exact hHeld.size) _) (fun hHeld => ?_)
          clear hK K
          (try simp only [List.setIfInBounds_toArray, List.set_cons_zero, List.set_cons_succ])
          refine wpAnyH_done (by kernel_rfl) ?_ _
          rotate_left
          exact AllReadyH.nil
          exact AllReadyH.nil
          exact AllReadyH.nil
          exact AllReadyH.nil
          · have h2 := hid (show (wa.setRow wq.heap.size (nums .u8 (sha (flat (tri K1 D av cv FL)))).toArray).heap[wq.heap.size]? = some (.cells (nums .u8 (sha (flat (tri K1 D av cv FL)))).toArray 26 (0, 0)) from setRow_heap _ _ _ _ _ _ ha.out)
            have hlo := hid (show wb.heap.size ≤ wq.heap.size from Nat.le_trans BP.out.size BQ.out.size)
            generalize hwz : wa.setRow wq.heap.size (nums .u8 (sha (flat (tri K1 D av cv FL)))).toArray = wz at *
            clear ha ba HP BP BQ hwz
            obtain ⟨K2, hk2⟩ : ∃ K2 : Nat, K2 = wq.heap.size := ⟨_, rfl⟩
            rw [← hk2] at h2 ⊢
            replace hlo := hid (show wb.heap.size ≤ K2 by rw [hk2]; exact hlo.out)
            clear hk2
            have hW2 : flat (tri K1 D av cv FL) = tagH s ++ FL := by rw [flat_tri, HTH.out, List.append_assoc]
            rw [hW2] at h2
            have HH := hid hHeld
            have B6 := hid (hwb.out.trans (hHeld.mono hwb.out.size))
            have hgl := (Array.getElem?_eq_some_iff.1 Gb.out).1
            have hKg := hid (show K2 ≠ g by have := hlo.out; omega)
            have G6 := hid (heap_keep Gb.out hHeld)
            clear hHeld hlo hW2 hiW hzW hoW hP3 HL3 HALL HTb SVb Gb KD hwb HTH hdl hdb B5
            obtain ⟨M, hM8, eM⟩ : ∃ M : Nat, M < 8 ∧ bits .and .i64 q 7 = (M : Int) := ⟨(q % 8).toNat, by omega, by rw [and7]; omega⟩
            go_wp2
            go_loopw [13] (fun x13 wr => ∃ (i : Nat) (cur' : Array Value), i ≤ M + 1 ∧ x13 = .int .i64 i ∧ Below w.heap.size w wr ∧ wr.heap[K2]? = some (.cells (nums .u8 (sha (tagH s ++ FL))).toArray 26 (0, 0)) ∧ wr.heap[g]? = some (.cells cur' 75 (0, 0)) ∧ Hid ((i = 0 ∧ TagNew cur' s 0) ∨ TagMade cur' s i)) (fun x13 _ => M + 1 - (intOf x13).toNat)
            case atStart => exact ⟨0, cur, by omega, rfl, B6.out, h2.out, G6.out, hid (.inl ⟨rfl, N2.out⟩)⟩
            case round =>
              obtain ⟨i, cur', hi, rfl, hb, hk, hgr, hn⟩ := hrel
              have HB := hid hb
              have HK := hid hk
              have HG := hid hgr
              have HTr := hid (HT.out.below hb)
              have hgl' := (Array.getElem?_eq_some_iff.1 hgr).1
              clear hb hk hgr G6 h2 B6
              by_cases hlt : i < M + 1
              · have r1 := guard_hv (sha (tagH s ++ FL)) (sha (tagH s ++ FL))
                have r2 : ∀ w, (binOp .neq 26 (hv (sha (tagH s ++ FL))) (.agg (nums .u8 (sha (tagH s ++ FL))).toArray)).run Tryd.prog w = .ok (.bool false) w := fun w => by
                  have := neq_hv (w := w) (sha_len (tagH s ++ FL)) (sha_len (tagH s ++ FL)) (sha_lt _) (sha_lt _)
                  rw [decide_eq_true rfl] at this
                  exact this
                have r1' : ∀ (op : BinOp) (x y : Operand) (w : World), (eqGuard op 26 x y (hv (sha (tagH s ++ FL))) (.agg (nums .u8 (sha (tagH s ++ FL))).toArray)).run Tryd.prog w = .ok () w := r1
                have RK := hid (row_range HK.out)
                have TS := hid (tsum_walk g i 75 s cur' a n cap ls wr.drew (by omega) HG.out (by rcases hn.out with ⟨h0, hh⟩ | hh; exact .inl (by rw [h0]; exact hh); exact .inr hh) (fun w' hf => HI.out.below (HB.out.trans ((((Below.refl wr.heap.size wr).drew).mono HB.out.size).trans (hf.below hgw.out HB.out.size)))) (by rw [hFLL]; omega) (by omega) (HTr.out.below ((Below.refl _ _).drew)) n0.out n1.out)
                rw [hFLL] at TS
                unfold TSumRes at TS
                have uH := Tryd.underlying26
                have hiL : (Tryd.prog.info? 26).map (·.size) = some (nums .u8 (sha (tagH s ++ FL))).length := by rw [nums_length, sha_len]; kernel_rfl
                generalize sha (tagH s ++ FL) = WV at *
                clear r1
                go_wp2
                go_region_held3 (fun w' => w'.rangeAt K2 0 (nums .u8 WV)) (first | exact RK.out | exact range_far fS RK.out hKg.out)
                  ((go_at_call 19; refine TS.out.mono ?_; rintro e wS ⟨rfl, fS, curS, gS, mS⟩))
                have HBS := hid (HB.out.trans ((((Below.refl wr.heap.size wr).drew).mono HB.out.size).trans (fS.below hgw.out HB.out.size)))
                have HKS := hid (heap_far (w := wr.drew) HK.out fS hKg.out)
                have GS := hid gS
                have MS := hid mS
                clear fS gS mS TS RK r2 r1'
                go_wp2
                go_roundw
                case rel => exact ⟨i + 1, curS, by omega, by go_num, HBS.out, HKS.out, GS.out, hid (.inr MS.out)⟩
                case measure => simp only [intOf, Int.toNat_natCast]; omega
              · obtain rfl : i = M + 1 := by omega
                have hM := hid (show TagMade cur' s (M + 1) by rcases hn.out with ⟨h0, _⟩ | hh; omega; exact hh)
                obtain ⟨z1, z2⟩ := z32_rules
                have US := hid (uses_walk g (M + 1) cur' _ wr HG.out hM.out.us)
                go_wp2_with fail
                refine US.out.mono ?_
                rintro e wU ⟨rfl, rfl⟩
                go_wp2_with fail
                refine (tsumN_walk _ _).mono ?_
                rintro e wV ⟨rfl, bV⟩
                rw [← z32_hv]
                have bA := (Below.refl wU.heap.size wU).alloc (Nat.le_refl _) (.cells #[.slice av FL.length cv] 22)
                have BV := hid (HB.out.trans ((bA.trans (bV.mono bA.size)).mono HB.out.size))
                clear bA
                clear bV
                go_wp2_with fail
                refine (usesN_walk _).mono ?_
                rintro e wX ⟨rfl, rfl⟩
                go_wp2
                go_ret
                exact ⟨rfl, BV.out⟩
          · have h2 := hid (show (wq.setRow wp.heap.size (nums .u8 (sha (flat (tri K1 D av cv FL)))).toArray).heap[wp.heap.size]? = some (.cells (nums .u8 (sha (flat (tri K1 D av cv FL)))).toArray 26 (0, 0)) from setRow_heap _ _ _ _ _ _ (heap_keep ha.out BQ.out))
            have hlo := hid (show wb.heap.size ≤ wp.heap.size from BP.out.size)
            generalize hwz : wq.setRow wp.heap.size (nums .u8 (sha (flat (tri K1 D av cv FL)))).toArray = wz at *
            clear ha ba HP BP BQ hwz
            obtain ⟨K2, hk2⟩ : ∃ K2 : Nat, K2 = wp.heap.size := ⟨_, rfl⟩
            rw [← hk2] at h2 ⊢
            replace hlo := hid (show wb.heap.size ≤ K2 by rw [hk2]; exact hlo.out)
            clear hk2
            have hW2 : flat (tri K1 D av cv FL) = tagH s ++ FL := by rw [flat_tri, HTH.out, List.append_assoc]
            rw [hW2] at h2
            have HH := hid hHeld
            have B6 := hid (hwb.out.trans (hHeld.mono hwb.out.size))
            have hgl := (Array.getElem?_eq_some_iff.1 Gb.out).1
            have hKg := hid (show K2 ≠ g by have := hlo.out; omega)
            have G6 := hid (heap_keep Gb.out hHeld)
            clear hHeld hlo hW2 hiW hzW hoW hP3 HL3 HALL HTb SVb Gb KD hwb HTH hdl hdb B5
            obtain ⟨M, hM8, eM⟩ : ∃ M : Nat, M < 8 ∧ bits .and .i64 q 7 = (M : Int) := ⟨(q % 8).toNat, by omega, by rw [and7]; omega⟩
            go_wp2
            go_loopw [13] (fun x13 wr => ∃ (i : Nat) (cur' : Array Value), i ≤ M + 1 ∧ x13 = .int .i64 i ∧ Below w.heap.size w wr ∧ wr.heap[K2]? = some (.cells (nums .u8 (sha (tagH s ++ FL))).toArray 26 (0, 0)) ∧ wr.heap[g]? = some (.cells cur' 75 (0, 0)) ∧ Hid ((i = 0 ∧ TagNew cur' s 0) ∨ TagMade cur' s i)) (fun x13 _ => M + 1 - (intOf x13).toNat)
            case atStart => exact ⟨0, cur, by omega, rfl, B6.out, h2.out, G6.out, hid (.inl ⟨rfl, N2.out⟩)⟩
            case round =>
              obtain ⟨i, cur', hi, rfl, hb, hk, hgr, hn⟩ := hrel
              have HB := hid hb
              have HK := hid hk
              have HG := hid hgr
              have HTr := hid (HT.out.below hb)
              have hgl' := (Array.getElem?_eq_some_iff.1 hgr).1
              clear hb hk hgr G6 h2 B6
              by_cases hlt : i < M + 1
              · have r1 := guard_hv (sha (tagH s ++ FL)) (sha (tagH s ++ FL))
                have r2 : ∀ w, (binOp .neq 26 (hv (sha (tagH s ++ FL))) (.agg (nums .u8 (sha (tagH s ++ FL))).toArray)).run Tryd.prog w = .ok (.bool false) w := fun w => by
                  have := neq_hv (w := w) (sha_len (tagH s ++ FL)) (sha_len (tagH s ++ FL)) (sha_lt _) (sha_lt _)
                  rw [decide_eq_true rfl] at this
                  exact this
                have r1' : ∀ (op : BinOp) (x y : Operand) (w : World), (eqGuard op 26 x y (hv (sha (tagH s ++ FL))) (.agg (nums .u8 (sha (tagH s ++ FL))).toArray)).run Tryd.prog w = .ok () w := r1
                have RK := hid (row_range HK.out)
                have TS := hid (tsum_walk g i 75 s cur' a n cap ls wr.drew (by omega) HG.out (by rcases hn.out with ⟨h0, hh⟩ | hh; exact .inl (by rw [h0]; exact hh); exact .inr hh) (fun w' hf => HI.out.below (HB.out.trans ((((Below.refl wr.heap.size wr).drew).mono HB.out.size).trans (hf.below hgw.out HB.out.size)))) (by rw [hFLL]; omega) (by omega) (HTr.out.below ((Below.refl _ _).drew)) n0.out n1.out)
                rw [hFLL] at TS
                unfold TSumRes at TS
                have uH := Tryd.underlying26
                have hiL : (Tryd.prog.info? 26).map (·.size) = some (nums .u8 (sha (tagH s ++ FL))).length := by rw [nums_length, sha_len]; kernel_rfl
                generalize sha (tagH s ++ FL) = WV at *
                clear r1
                go_wp2
                go_region_held3 (fun w' => w'.rangeAt K2 0 (nums .u8 WV)) (first | exact RK.out | exact range_far fS RK.out hKg.out)
                  ((go_at_call 19; refine TS.out.mono ?_; rintro e wS ⟨rfl, fS, curS, gS, mS⟩))
                have HBS := hid (HB.out.trans ((((Below.refl wr.heap.size wr).drew).mono HB.out.size).trans (fS.below hgw.out HB.out.size)))
                have HKS := hid (heap_far (w := wr.drew) HK.out fS hKg.out)
                have GS := hid gS
                have MS := hid mS
                clear fS gS mS TS RK r2 r1'
                go_wp2
                go_roundw
                case rel => exact ⟨i + 1, curS, by omega, by go_num, HBS.out, HKS.out, GS.out, hid (.inr MS.out)⟩
                case measure => simp only [intOf, Int.toNat_natCast]; omega
              · obtain rfl : i = M + 1 := by omega
                have hM := hid (show TagMade cur' s (M + 1) by rcases hn.out with ⟨h0, _⟩ | hh; omega; exact hh)
                obtain ⟨z1, z2⟩ := z32_rules
                have US := hid (uses_walk g (M + 1) cur' _ wr HG.out hM.out.us)
                go_wp2_with fail
                refine US.out.mono ?_
                rintro e wU ⟨rfl, rfl⟩
                go_wp2_with fail
                refine (tsumN_walk _ _).mono ?_
                rintro e wV ⟨rfl, bV⟩
                rw [← z32_hv]
                have bA := (Below.refl wU.heap.size wU).alloc (Nat.le_refl _) (.cells #[.slice av FL.length cv] 22)
                have BV := hid (HB.out.trans ((bA.trans (bV.mono bA.size)).mono HB.out.size))
                clear bA
                clear bV
                go_wp2_with fail
                refine (usesN_walk _).mono ?_
                rintro e wX ⟨rfl, rfl⟩
                go_wp2
                go_ret
                exact ⟨rfl, BV.out⟩
          · have h2 := hid (show (wq.setRow wb.heap.size (nums .u8 (sha (flat (tri K1 D av cv FL)))).toArray).heap[wb.heap.size]? = some (.cells (nums .u8 (sha (flat (tri K1 D av cv FL)))).toArray 26 (0, 0)) from setRow_heap _ _ _ _ _ _ (heap_keep (heap_keep ha.out BP.out) BQ.out))
            have hlo := hid (show wb.heap.size ≤ wb.heap.size from Nat.le_refl _)
            generalize hwz : wq.setRow wb.heap.size (nums .u8 (sha (flat (tri K1 D av cv FL)))).toArray = wz at *
            clear ha ba HP BP BQ hwz
            obtain ⟨K2, hk2⟩ : ∃ K2 : Nat, K2 = wb.heap.size := ⟨_, rfl⟩
            rw [← hk2] at h2 ⊢
            replace hlo := hid (show wb.heap.size ≤ K2 by rw [hk2]; exact hlo.out)
            clear hk2
            have hW2 : flat (tri K1 D av cv FL) = tagH s ++ FL := by rw [flat_tri, HTH.out, List.append_assoc]
            rw [hW2] at h2
            have HH := hid hHeld
            have B6 := hid (hwb.out.trans (hHeld.mono hwb.out.size))
            have hgl := (Array.getElem?_eq_some_iff.1 Gb.out).1
            have hKg := hid (show K2 ≠ g by have := hlo.out; omega)
            have G6 := hid (heap_keep Gb.out hHeld)
            clear hHeld hlo hW2 hiW hzW hoW hP3 HL3 HALL HTb SVb Gb KD hwb HTH hdl hdb B5
            obtain ⟨M, hM8, eM⟩ : ∃ M : Nat, M < 8 ∧ bits .and .i64 q 7 = (M : Int) := ⟨(q % 8).toNat, by omega, by rw [and7]; omega⟩
            go_wp2
            go_loopw [13] (fun x13 wr => ∃ (i : Nat) (cur' : Array Value), i ≤ M + 1 ∧ x13 = .int .i64 i ∧ Below w.heap.size w wr ∧ wr.heap[K2]? = some (.cells (nums .u8 (sha (tagH s ++ FL))).toArray 26 (0, 0)) ∧ wr.heap[g]? = some (.cells cur' 75 (0, 0)) ∧ Hid ((i = 0 ∧ TagNew cur' s 0) ∨ TagMade cur' s i)) (fun x13 _ => M + 1 - (intOf x13).toNat)
            case atStart => exact ⟨0, cur, by omega, rfl, B6.out, h2.out, G6.out, hid (.inl ⟨rfl, N2.out⟩)⟩
            case round =>
              obtain ⟨i, cur', hi, rfl, hb, hk, hgr, hn⟩ := hrel
              have HB := hid hb
              have HK := hid hk
              have HG := hid hgr
              have HTr := hid (HT.out.below hb)
              have hgl' := (Array.getElem?_eq_some_iff.1 hgr).1
              clear hb hk hgr G6 h2 B6
              by_cases hlt : i < M + 1
              · have r1 := guard_hv (sha (tagH s ++ FL)) (sha (tagH s ++ FL))
                have r2 : ∀ w, (binOp .neq 26 (hv (sha (tagH s ++ FL))) (.agg (nums .u8 (sha (tagH s ++ FL))).toArray)).run Tryd.prog w = .ok (.bool false) w := fun w => by
                  have := neq_hv (w := w) (sha_len (tagH s ++ FL)) (sha_len (tagH s ++ FL)) (sha_lt _) (sha_lt _)
                  rw [decide_eq_true rfl] at this
                  exact this
                have r1' : ∀ (op : BinOp) (x y : Operand) (w : World), (eqGuard op 26 x y (hv (sha (tagH s ++ FL))) (.agg (nums .u8 (sha (tagH s ++ FL))).toArray)).run Tryd.prog w = .ok () w := r1
                have RK := hid (row_range HK.out)
                have TS := hid (tsum_walk g i 75 s cur' a n cap ls wr.drew (by omega) HG.out (by rcases hn.out with ⟨h0, hh⟩ | hh; exact .inl (by rw [h0]; exact hh); exact .inr hh) (fun w' hf => HI.out.below (HB.out.trans ((((Below.refl wr.heap.size wr).drew).mono HB.out.size).trans (hf.below hgw.out HB.out.size)))) (by rw [hFLL]; omega) (by omega) (HTr.out.below ((Below.refl _ _).drew)) n0.out n1.out)
                rw [hFLL] at TS
                unfold TSumRes at TS
                have uH := Tryd.underlying26
                have hiL : (Tryd.prog.info? 26).map (·.size) = some (nums .u8 (sha (tagH s ++ FL))).length := by rw [nums_length, sha_len]; kernel_rfl
                generalize sha (tagH s ++ FL) = WV at *
                clear r1
                go_wp2
                go_region_held3 (fun w' => w'.rangeAt K2 0 (nums .u8 WV)) (first | exact RK.out | exact range_far fS RK.out hKg.out)
                  ((go_at_call 19; refine TS.out.mono ?_; rintro e wS ⟨rfl, fS, curS, gS, mS⟩))
                have HBS := hid (HB.out.trans ((((Below.refl wr.heap.size wr).drew).mono HB.out.size).trans (fS.below hgw.out HB.out.size)))
                have HKS := hid (heap_far (w := wr.drew) HK.out fS hKg.out)
                have GS := hid gS
                have MS := hid mS
                clear fS gS mS TS RK r2 r1'
                go_wp2
                go_roundw
                case rel => exact ⟨i + 1, curS, by omega, by go_num, HBS.out, HKS.out, GS.out, hid (.inr MS.out)⟩
                case measure => simp only [intOf, Int.toNat_natCast]; omega
              · obtain rfl : i = M + 1 := by omega
                have hM := hid (show TagMade cur' s (M + 1) by rcases hn.out with ⟨h0, _⟩ | hh; omega; exact hh)
                obtain ⟨z1, z2⟩ := z32_rules
                have US := hid (uses_walk g (M + 1) cur' _ wr HG.out hM.out.us)
                go_wp2_with fail
                refine US.out.mono ?_
                rintro e wU ⟨rfl, rfl⟩
                go_wp2_with fail
                refine (tsumN_walk _ _).mono ?_
                rintro e wV ⟨rfl, bV⟩
                rw [← z32_hv]
                have bA := (Below.refl wU.heap.size wU).alloc (Nat.le_refl _) (.cells #[.slice av FL.length cv] 22)
                have BV := hid (HB.out.trans ((bA.trans (bV.mono bA.size)).mono HB.out.size))
                clear bA
                clear bV
                go_wp2_with fail
                refine (usesN_walk _).mono ?_
                rintro e wX ⟨rfl, rfl⟩
                go_wp2
                go_ret
                exact ⟨rfl, BV.out⟩
    · have t0 : decide ((s.size : Int) > 200) = false := by rw [decide_eq_false_iff_not]; omega
      have t1 : decide ((n : Int) > 20) = true := by rw [decide_eq_true_eq]; omega
      go_wp2
      go_ret
      exact ⟨rfl, HB1.out⟩
  · have t0 : decide ((s.size : Int) > 200) = true := by rw [decide_eq_true_eq]; omega
    go_wp2
    go_ret
    exact ⟨rfl, HB1.out⟩
theorem opens_bytesT {H : Type} {enc : TypeId × Value → H} {W : World} : Opens enc Tryd.prog W 22 SLo.cells (SLo.good W 1 1 (fun z : Nat => [Value.int .u8 (z : Int)]) (fun z => z < 256)) :=
  opens_slice Tryd.underlying22 (opens_nat (fun _ => u8_nat) Tryd.underlying5) (by kernel_rfl) (by kernel_rfl) (fun _ => rfl) (by decide)
theorem opens_partsT {H : Type} {enc : TypeId × Value → H} {W : World} : Opens enc Tryd.prog W 38 SLo.cells (SLo.good W 1 24 BS.cells (BS.good W)) := by
  refine opens_slice Tryd.underlying38 (Opens.map opens_bytesT (fun x => ⟨x.a, x.c, x.xs⟩) (fun _ => rfl) ?_) (by kernel_rfl) (by kernel_rfl) (fun _ => rfl) (by decide)
  intro s hs
  obtain ⟨h1, h2, h3⟩ := SLo.nums (k := .u8) (W := W) (bytes := 1) (M := 256) (s := s) hs
  exact ⟨h1, h2, by simpa using h3⟩
theorem lawTags' (s : ByteArray) (a : Option Addr) (l c : Nat) (ls : List BS) (q : Int) (_hs : s.size ≤ maxLen) (_hm : (Lit.int .i64 q).wf = true) (w : World) (hl : ls.length = l) (h : SLo.good w 1 24 BS.cells (BS.good w) ⟨a, c, ls⟩) (ht : Tabs w) :
    Calls Tryd.prog 7 #[.string s, .slice a l c, .int .i64 q] w fun e w' => e = .returned (.bool true) ∧ Below w.heap.size w w' := by
  subst hl
  exact lawTags s a ls.length c ls q w ⟨h.1, rfl, h.2.1⟩ ht
end Go.Proofs.YtpncdgogefhjlaaDoor

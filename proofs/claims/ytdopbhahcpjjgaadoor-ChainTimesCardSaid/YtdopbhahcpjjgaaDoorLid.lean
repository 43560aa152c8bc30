/- A transaction's name hangs on what it spends and gives alone (the statement ChainIds). -/
import Derived.Test.YtdopbhahcpjjgaaDoorChe
namespace Go.Proofs.YtdopbhahcpjjgaaDoor
open Go.RowKit

theorem bodyB_other {t : TxD} {i : InD} {r : List InD} (ht : t.ins = i :: r) (h : List Nat) (p : Int) (a : Option Addr) (c : Nat) : bodyB (TxD.mk a c (i.other h p :: r) t.oa t.oc t.outs) = bodyB t := by
  unfold bodyB
  rw [ht]
  rfl
theorem and3i (n : Int) : bits .and .i64 n 3 = n % 4 := by
  have h127 : (BitVec.ofInt 64 3).toNat = 2 ^ 2 - 1 := by decide
  have key : (BitVec.ofInt 64 n &&& BitVec.ofInt 64 3).toNat = (n % ((2 ^ 64 : Nat) : Int)).toNat % 2 ^ 2 := by
    rw [BitVec.toNat_and, BitVec.toNat_ofInt, h127, Nat.and_two_pow_sub_one_eq_mod]
  show IntKind.i64.wrap ((BitVec.ofInt 64 n &&& BitVec.ofInt 64 3).toNat : Nat) = n % 4
  rw [key, IntKind.wrap_i64]
  omega
theorem in_tok {i : InD} (hi : i.ok) {h : List Nat} (hh : h.length = 32) {R : List Value} : putL (i.cells ++ R) 34 (nums .u8 h) = ({ i with token := h } : InD).cells ++ R := by
  unfold InD.cells
  dsimp only
  have e : nums .u8 i.tx ++ (Value.int .i64 i.out :: Value.int .i64 i.path :: (nums .u8 i.token ++ (nums .u8 i.more ++ nums .u8 i.secret))) ++ R = (nums .u8 i.tx ++ [Value.int .i64 i.out, Value.int .i64 i.path]) ++ (nums .u8 i.token ++ (nums .u8 i.more ++ nums .u8 i.secret ++ R)) := by simp
  have hA : (nums .u8 i.tx ++ [Value.int .i64 i.out, Value.int .i64 i.path]).length = 34 := by simp [hi.tx.1]
  rw [e, ← hA, putL_mid _ _ _ _ (by simp [hh, hi.token.1])]
  simp
theorem in_more {i : InD} (hi : i.ok) {h : List Nat} (hh : h.length = 32) {R : List Value} : putL (i.cells ++ R) 66 (nums .u8 h) = ({ i with more := h } : InD).cells ++ R := by
  unfold InD.cells
  dsimp only
  have e : nums .u8 i.tx ++ (Value.int .i64 i.out :: Value.int .i64 i.path :: (nums .u8 i.token ++ (nums .u8 i.more ++ nums .u8 i.secret))) ++ R = (nums .u8 i.tx ++ [Value.int .i64 i.out, Value.int .i64 i.path] ++ nums .u8 i.token) ++ (nums .u8 i.more ++ (nums .u8 i.secret ++ R)) := by simp
  have hA : (nums .u8 i.tx ++ [Value.int .i64 i.out, Value.int .i64 i.path] ++ nums .u8 i.token).length = 66 := by simp [hi.tx.1, hi.token.1]
  rw [e, ← hA, putL_mid _ _ _ _ (by simp [hh, hi.more.1])]
  simp
theorem in_sec {i : InD} (hi : i.ok) {h : List Nat} (hh : h.length = 32) {R : List Value} : putL (i.cells ++ R) 98 (nums .u8 h) = ({ i with secret := h } : InD).cells ++ R := by
  unfold InD.cells
  dsimp only
  have e : nums .u8 i.tx ++ (Value.int .i64 i.out :: Value.int .i64 i.path :: (nums .u8 i.token ++ (nums .u8 i.more ++ nums .u8 i.secret))) ++ R = (nums .u8 i.tx ++ [Value.int .i64 i.out, Value.int .i64 i.path] ++ nums .u8 i.token ++ nums .u8 i.more) ++ (nums .u8 i.secret ++ R) := by simp
  have hA : (nums .u8 i.tx ++ [Value.int .i64 i.out, Value.int .i64 i.path] ++ nums .u8 i.token ++ nums .u8 i.more).length = 98 := by simp [hi.tx.1, hi.token.1, hi.more.1]
  rw [e, ← hA, putL_mid _ _ _ _ (by simp [hh, hi.secret.1])]
  simp
theorem in_path {i : InD} (hi : i.ok) (p : Int) {R : List Value} : (i.cells ++ R).set 33 (.int .i64 p) = ({ i with path := p } : InD).cells ++ R := by
  unfold InD.cells
  dsimp only
  have hA : (nums .u8 i.tx).length = 32 := by simp [hi.tx.1]
  rw [List.append_assoc, List.set_append_right _ _ (by rw [hA]; decide), hA]
  simp
theorem own_sub {B : Nat} {e : TypeId} {size g n c : Nat} {w : World} {xs : List Value} (h : w.ownsRow B e size (.slice (some ⟨g, 0, none⟩) n c) n xs) (o m : Nat) (hm : o + m ≤ n * size) : w.there g o m := fun j hj => by
  have := own_there h (o + j) (by omega)
  simpa using this
set_option maxRecDepth 100000 in
set_option maxHeartbeats 16000000 in
theorem lawIds (t : TxD) (h : List Nat) (hh : H32b h) (p : Int) (hp : i64ok p) (w : World) (hg : t.good w) (ht : Tabs w) :
    Calls Tryd.prog 3 #[.agg t.cells.toArray, .agg (nums .u8 h).toArray, .int .i64 p] w (fun e w' => e = .returned (.bool true) ∧ Below w.heap.size w w') := by
  have G := hid hg
  have HT := hid ht
  have HH := hid hh
  have HP := hid hp
  obtain ⟨tc, htc⟩ : ∃ tc, tc = t.cells := ⟨_, rfl⟩
  have TL := hid (show tc.length = 2 by rw [htc]; rfl)
  have hiT := hid (show (Tryd.prog.info? 25).map (·.size) = some tc.length by rw [TL.out]; kernel_rfl)
  have hiTa := hid (show (Tryd.prog.info? 25).map (·.size) = some tc.toArray.size by rw [List.size_toArray, TL.out]; kernel_rfl)
  have hoT := hid (show 2 = tc.toArray.size by rw [List.size_toArray, TL.out])
  have h1T := hid (show (tc.toArray.all fun x => x.oneCell') = true by rw [htc]; exact all_oneCell_toArray (TxD.one t))
  have A2 := alloc2p w (.cells tc.toArray 25) (.cells (nums .u8 h).toArray 27)
  have HA := hid A2.1
  have HR := hid A2.2.1
  have B1 := hid A2.2.2.2
  have CK := fun (wx : World) (bx : Below w.heap.size w wx) => hid (show Calls Tryd.prog 8 #[.agg tc.toArray] wx _ from by rw [htc]; exact tcheck_walk t wx (G.out.below bx))
  have CI := fun (wx : World) (bx : Below w.heap.size w wx) => hid (show Calls Tryd.prog 9 #[.agg tc.toArray] wx _ from by rw [htc]; exact cid_walk t wx (G.out.below bx) (HT.out.below bx))
  have CBG := fun (wx : World) (bx : Below w.heap.size w wx) => hid (show Calls Tryd.prog 7 #[.agg tc.toArray] wx _ from by rw [htc]; exact cbig_walk t wx (G.out.below bx))
  obtain ⟨N, hN⟩ : ∃ N, N = t.ins.length := ⟨_, rfl⟩
  obtain ⟨ia, hia⟩ : ∃ ia, ia = t.ia := ⟨_, rfl⟩
  obtain ⟨ic, hic⟩ : ∃ ic, ic = t.ic := ⟨_, rfl⟩
  have NN := hid hN
  have PI := hid (show Rd w 130 ia N ic (t.ins.flatMap InD.cells) by rw [hia, hic, hN]; exact hg.ins)
  have TCE := hid (show tc = [.slice ia N ic, .slice t.oa t.outs.length t.oc] by rw [htc]; unfold TxD.cells; rw [hia, hic, hN])
  rw [← htc]
  clear hg ht hh hp htc A2 hN hia hic
  go_enter Tryd.func3, Tryd.ntmps3
  go_upto_region 1 with (fail)
  generalize (w.alloc (.cells tc.toArray 25)).alloc (.cells (nums .u8 h).toArray 27) = w1 at *
  go_wp2_with (fail)
  refine (chead_walk w1 (HT.out.below B1.out)).mono ?_
  rintro e w2 ⟨rfl, b2⟩
  have W1 := hid (show w.heap.size + 1 < w1.heap.size from (Array.getElem?_eq_some_iff.1 HR.out).1)
  have B2 := hid (show Below w.heap.size w w2 from B1.out.trans (b2.mono B1.out.size))
  have HA2 := hid (heap_keep HA.out b2)
  have HR2 := hid (heap_keep HR.out b2)
  have W2 := hid (show w1.heap.size ≤ w2.heap.size from b2.size)
  clear b2
  go_upto_region 3 with (fail)
  have rT := row_range HA2.out
  go_wp2_with (with_reducible refine wpList_load_mid rfl _ _ rfl w.heap.size 0 rfl tc _ rT Tryd.underlying25 rfl hiT.out ?_)
  refine (CBG w2 B2.out).out.mono ?_
  rintro e w3 ⟨rfl, b3⟩
  have B3 := hid (show Below w.heap.size w w3 from B2.out.trans (b3.mono B2.out.size))
  have HA3 := hid (heap_keep HA2.out b3)
  have HR3 := hid (heap_keep HR2.out b3)
  have W3 := hid (show w2.heap.size ≤ w3.heap.size from b3.size)
  have k0 : w3.cell? ⟨w.heap.size, 0, none⟩ = some (.slice ia N ic) := gen_cell (j := 0) (row_range HA3.out) (by rw [TCE.out]; rfl)
  obtain ⟨bg, hbg⟩ : ∃ bg, bg = bigT t := ⟨_, rfl⟩
  rw [← hbg]
  have BGE := hid hbg
  clear b3 rT hbg
  cases bg with
  | true =>
    go_wp2_with (fail)
    go_ret
    exact ⟨rfl, B3.out⟩
  | false =>
    by_cases hn : N = 0
    · have v1 : ((N : Int) == 0) = true := by rw [beq_iff_eq]; omega
      clear hn
      go_wp2_with (fail)
      go_ret
      exact ⟨rfl, B3.out⟩
    have v1 : ((N : Int) == 0) = false := by rw [beq_eq_false_iff_ne]; omega
    have HN := hid hn
    have NB := hid (show N ≤ 260 from by have := BGE.out; unfold bigT at this; have h1 := (Bool.or_eq_false_iff.1 this.symm).1; rw [NN.out]; have := of_decide_eq_false h1; omega)
    clear hn
    go_upto_region 5 with (fail)
    have rT3 := row_range HA3.out
    go_upto_region 6 with (first | with_reducible refine wpList_load_mid rfl _ _ rfl w.heap.size 0 rfl tc _ rT3 Tryd.underlying25 rfl hiT.out ?_ | (refine wpList_store_row rfl _ _ _ rfl w3.heap.size tc.toArray rfl rfl _ _ (heap_alloc_new _ _) hiTa.out hoT.out h1T.out ?_; refine laidW (F := fun w3 => wpList _ _ _ _ _ w3) ?_; intro w4 h4 b4))
    have HU := hid h4.out
    have B4 := hid (show Below w.heap.size w w4 from B3.out.trans (b4.out.mono B3.out.size))
    have HA4 := hid (heap_keep HA3.out b4.out)
    have HR4 := hid (heap_keep HR3.out b4.out)
    have W4 := hid (show w3.heap.size < w4.heap.size from (Array.getElem?_eq_some_iff.1 h4.out).1)
    have k4 := cell_keep b4.out k0
    clear h4 b4 rT3 k0
    generalize w3.heap.size = U at *
    go_frame
    have OWN := hid (own_new w4 #[] 33 (size := 130) (n := 0) (B := w4.heap.size) rfl (Nat.le_refl _) (by decide))
    have BL := hid ((Below.refl w4.heap.size w4).alloc (Nat.le_refl _) (.cells #[] 33))
    have k5 : (w4.alloc (.cells #[] 33)).cell? ⟨w.heap.size, 0, none⟩ = some (.slice ia N ic) := cell_keep BL.out k4
    have ONE := hid (show ∀ u ∈ t.ins.flatMap InD.cells, u.oneCell' = true from fun u hu => by obtain ⟨i, _, hi⟩ := List.mem_flatMap.1 hu; exact InD.one i u hi)
    have ULT := hid (show U < w4.heap.size from W4.out)
    have BSZ := hid (show w4.heap.size ≤ (w4.alloc (.cells #[] 33)).heap.size from BL.out.size)
    clear k4
    go_upto_region 7 with (at_builtin; refine wpList_cat rfl _ _ 22 rfl tyIn w4.heap.size OWN.out rfl rfl ((PI.out.below B4.out).below BL.out) ONE.out (by have := NB.out; omega) (by have := NB.out; unfold maxLen; omega) BSZ.out ?_; intro v6 w6 o6 b6 _ _; rw [Nat.zero_add] at o6; obtain ⟨a6, c6, rfl, _⟩ := Rd.of_owns o6; have O6 := hid o6; have B46 := hid (show Below w4.heap.size w4 w6 from BL.out.trans b6); have hU := heap_keep HU.out B46.out; have c9 := gen_cell (j := 0) (row_range (show w6.heap[U]? = some (.cells tc.toArray 25 (0, 0)) from hU)) (by rw [TCE.out]; rfl); have z9 := frozen_of_row w6 U 0 _ _ hU; clear o6 b6 k5)
    obtain ⟨g, rfl, lg⟩ := own_base O6.out (by have := HN.out; omega)
    have LG := hid lg
    have HU7 := hid (show (w6.setCell ⟨U, 0, none⟩ (.slice (some ⟨g, 0, none⟩) N c6)).heap[U]? = some (.cells ([.slice (some ⟨g, 0, none⟩) N c6, .slice t.oa t.outs.length t.oc] : List Value).toArray 25 (0, 0)) from by have := heap_set (i := 0) (.slice (some ⟨g, 0, none⟩) N c6) hU; rw [TCE.out] at this; exact this)
    have F7 := hid (show Far U w6 (w6.setCell ⟨U, 0, none⟩ (.slice (some ⟨g, 0, none⟩) N c6)) from Far.set _)
    have O7 := hid ((Keep.far' F7.out).own O6.out (fun g' hg e => by have : g' = g := (Option.some.inj (show some g = some g' from hg)).symm; have := LG.out; have := ULT.out; omega))
    clear hU c9 z9 lg
    generalize w6.setCell ⟨U, 0, none⟩ (.slice (some ⟨g, 0, none⟩) N c6) = w7 at *
    obtain ⟨i0, r0, hir⟩ : ∃ i0 r0, t.ins = i0 :: r0 := by
      cases hi : t.ins with
      | nil => rw [hi] at NN; exact absurd NN.out HN.out
      | cons i r => exact ⟨i, r, rfl⟩
    have IR := hid hir
    have i0k := hid (G.out.iok i0 (by rw [hir]; simp))
    obtain ⟨R, hR⟩ : ∃ R, R = r0.flatMap InD.cells := ⟨_, rfl⟩
    have RE := hid hR
    have ROWL := hid (show [].append (t.ins.flatMap InD.cells) = i0.cells ++ R from by rw [hir, hR, List.flatMap_cons]; rfl)
    have OR7 := hid (show w7.ownsRow w4.heap.size 33 130 (.slice (some ⟨g, 0, none⟩) N c6) N (i0.cells ++ R) from by have := O7.out; rw [← ROWL.out]; exact this)
    have BX := fun (wx : World) (k : Keep (fun i => i = U ∨ i = g) w6 wx) => hid (show wx.heap[w.heap.size + 1]? = some (.cells (nums .u8 h).toArray 27 (0, 0)) from k.heap (heap_keep HR4.out B46.out) (by have := LG.out; have := ULT.out; have := W1.out; have := W2.out; have := W3.out; omega))
    have hiHl := hid (show (Tryd.prog.info? 27).map (·.size) = some (nums .u8 h).length by rw [nums_length, HH.out.1]; kernel_rfl)
    have hiHa := hid (show (Tryd.prog.info? 27).map (·.size) = some (nums .u8 h).toArray.size by rw [List.size_toArray, nums_length, HH.out.1]; kernel_rfl)
    have h1H := hid (all_oneCell_toArray (nums_oneCell .u8 h))
    clear hir hR
    obtain ⟨p3, hp3, hb3⟩ : ∃ p3 : Int, bits .and .i64 p 3 = p3 ∧ 0 ≤ p3 ∧ p3 < 4 := ⟨p % 4, and3i p, by omega, by omega⟩
    have P3 := hid hb3
    clear hb3
    have t1 : decide (0 < N) = true := decide_eq_true (by have := HN.out; omega)
    have t2 : decide ((0 : Int) < (N : Int)) = true := decide_eq_true (by have := HN.out; omega)
    have t6 : (0 : Int) < (N : Int) := by have := HN.out; omega
    have t7 : ¬ ((N : Int) ≤ 0) := by have := HN.out; omega
    have t8 : 0 < N := by have := HN.out; omega
    have kU := gen_cell (j := 0) (row_range HU7.out) rfl
    have rH := row_range (BX w7 (Keep.far F7.out (.inl rfl))).out
    have TH7 := hid (own_sub OR7.out 34 32 (by have := t8; omega))
    go_upto_region 8 with (first | with_reducible refine wpList_load_mid rfl _ _ rfl (w.heap.size + 1) 0 rfl (nums .u8 h) _ rH Tryd.underlying27 rfl hiHl.out ?_ | refine wpList_store_mid rfl _ _ _ rfl g 34 (nums .u8 h).toArray rfl rfl (by rw [show (nums .u8 h).toArray.size = 32 by rw [List.size_toArray, nums_length, HH.out.1]]; exact TH7.out) hiHa.out h1H.out ?_)
    have O8 := hid (show (w7.setCells g 34 (nums .u8 h)).ownsRow w4.heap.size 33 130 (.slice (some ⟨g, 0, none⟩) N c6) N (({ i0 with token := h } : InD).cells ++ R) from by have := own_putL (nums .u8 h) 34 w7 _ OR7.out; rw [in_tok i0k.out HH.out.1] at this; exact this)
    have F8 := hid (show Far g w7 (w7.setCells g 34 (nums .u8 h)) from far_setCells _ _ _)
    have K8 := hid (show Keep (fun i => i = U ∨ i = g) w6 (w7.setCells g 34 (nums .u8 h)) from (Keep.far F7.out (.inl rfl)).trans (Keep.far F8.out (.inr rfl)))
    have UG := hid (show U ≠ g from by have := LG.out; have := ULT.out; omega)
    have HU8 := hid (heap_far HU7.out F8.out UG.out)
    clear kU rH
    generalize w7.setCells g 34 (nums .u8 h) = w8 at *
    have kU := gen_cell (j := 0) (row_range HU8.out) rfl
    have rH := row_range (BX w8 K8.out).out
    have TH8 := hid (own_sub O8.out 66 32 (by have := t8; omega))
    go_upto_region 9 with (first | with_reducible refine wpList_load_mid rfl _ _ rfl (w.heap.size + 1) 0 rfl (nums .u8 h) _ rH Tryd.underlying27 rfl hiHl.out ?_ | refine wpList_store_mid rfl _ _ _ rfl g 66 (nums .u8 h).toArray rfl rfl (by rw [show (nums .u8 h).toArray.size = 32 by rw [List.size_toArray, nums_length, HH.out.1]]; exact TH8.out) hiHa.out h1H.out ?_)
    have O9 := hid (show (w8.setCells g 66 (nums .u8 h)).ownsRow w4.heap.size 33 130 (.slice (some ⟨g, 0, none⟩) N c6) N (({ i0 with token := h, more := h } : InD).cells ++ R) from by have := own_putL (nums .u8 h) 66 w8 _ O8.out; rw [in_more (i := { i0 with token := h }) ⟨i0k.out.tx, i0k.out.out, i0k.out.path, HH.out, i0k.out.more, i0k.out.secret⟩ HH.out.1] at this; exact this)
    have F9 := hid (show Far g w8 (w8.setCells g 66 (nums .u8 h)) from far_setCells _ _ _)
    have K9 := hid (K8.out.trans (Keep.far F9.out (.inr rfl)))
    have HU9 := hid (heap_far HU8.out F9.out UG.out)
    clear kU rH
    generalize w8.setCells g 66 (nums .u8 h) = w9 at *
    have kU := gen_cell (j := 0) (row_range HU9.out) rfl
    have rH := row_range (BX w9 K9.out).out
    have TH9 := hid (own_sub O9.out 98 32 (by have := t8; omega))
    go_upto_region 10 with (first | with_reducible refine wpList_load_mid rfl _ _ rfl (w.heap.size + 1) 0 rfl (nums .u8 h) _ rH Tryd.underlying27 rfl hiHl.out ?_ | refine wpList_store_mid rfl _ _ _ rfl g 98 (nums .u8 h).toArray rfl rfl (by rw [show (nums .u8 h).toArray.size = 32 by rw [List.size_toArray, nums_length, HH.out.1]]; exact TH9.out) hiHa.out h1H.out ?_)
    have O10 := hid (show (w9.setCells g 98 (nums .u8 h)).ownsRow w4.heap.size 33 130 (.slice (some ⟨g, 0, none⟩) N c6) N (({ i0 with token := h, more := h, secret := h } : InD).cells ++ R) from by have := own_putL (nums .u8 h) 98 w9 _ O9.out; rw [in_sec (i := { i0 with token := h, more := h }) ⟨i0k.out.tx, i0k.out.out, i0k.out.path, HH.out, HH.out, i0k.out.secret⟩ HH.out.1] at this; exact this)
    have F10 := hid (show Far g w9 (w9.setCells g 98 (nums .u8 h)) from far_setCells _ _ _)
    have K10 := hid (K9.out.trans (Keep.far F10.out (.inr rfl)))
    have HU10 := hid (heap_far HU9.out F10.out UG.out)
    clear kU rH
    generalize w9.setCells g 98 (nums .u8 h) = w10 at *
    have kU := gen_cell (j := 0) (row_range HU10.out) rfl
    have cP : w10.cell? ⟨g, 33, none⟩ = some (.int .i64 i0.path) := by
      have := own_range O10.out 33 (.int .i64 i0.path) (by rw [List.getElem?_append_left (by rw [InD.len (i := { i0 with token := h, more := h, secret := h }) ⟨i0k.out.tx, i0k.out.out, i0k.out.path, HH.out, HH.out, HH.out⟩]; decide)]; exact InD.c33 (i := { i0 with token := h, more := h, secret := h }) ⟨i0k.out.tx, i0k.out.out, i0k.out.path, HH.out, HH.out, HH.out⟩)
      rwa [Nat.zero_add] at this
    have zP : w10.frozen? ⟨g, 33, none⟩ = false := (own_sub O10.out 33 1 (by have := t8; omega) 0 (by decide)).2
    go_upto_region 11 with (fail)
    have O11 := hid (show (w10.setCell ⟨g, 33, none⟩ (.int .i64 p3)).ownsRow w4.heap.size 33 130 (.slice (some ⟨g, 0, none⟩) N c6) N ((i0.other h p3).cells ++ R) from by have := (O10.out.stored 33 (.int .i64 p3)).1; rw [in_path (i := { i0 with token := h, more := h, secret := h }) ⟨i0k.out.tx, i0k.out.out, i0k.out.path, HH.out, HH.out, HH.out⟩] at this; exact this)
    have F11 := hid (show Far g w10 (w10.setCell ⟨g, 33, none⟩ (.int .i64 p3)) from Far.set _)
    have K11 := hid (K10.out.trans (Keep.far F11.out (.inr rfl)))
    have HU11 := hid (heap_far HU10.out F11.out UG.out)
    clear kU cP zP
    generalize w10.setCell ⟨g, 33, none⟩ (.int .i64 p3) = w11 at *
    have BW11 := hid (show Below w.heap.size w w11 from ((B4.out.trans (B46.out.mono B4.out.size))).trans (K11.out.below (fun i h => by have := LG.out; have := ULT.out; have := W1.out; have := W2.out; have := W3.out; have := B4.out.size; omega) (Nat.le_trans B4.out.size B46.out.size)))
    have HA11 := hid (K11.out.heap (heap_keep HA4.out B46.out) (by have := LG.out; have := ULT.out; have := W1.out; have := W2.out; have := W3.out; omega))
    have UC := hid (show ([.slice (some ⟨g, 0, none⟩) N c6, .slice t.oa t.outs.length t.oc] : List Value).length = 2 from rfl)
    have UL := hid (show (Tryd.prog.info? 25).map (·.size) = some ([.slice (some ⟨g, 0, none⟩) N c6, .slice t.oa t.outs.length t.oc] : List Value).length from by kernel_rfl)
    obtain ⟨u, hu⟩ : ∃ u, u = TxD.mk (some ⟨g, 0, none⟩) c6 (i0.other h p3 :: r0) t.oa t.oc t.outs := ⟨_, rfl⟩
    have UCE := hid (show u.cells = [.slice (some ⟨g, 0, none⟩) N c6, .slice t.oa t.outs.length t.oc] from by rw [hu]; unfold TxD.cells; rw [NN.out, IR.out]; rfl)
    have UGD := hid (show u.good w11 from by
      rw [hu]
      obtain ⟨_, _, e1, r1⟩ := Rd.of_owns O11.out
      simp only [Value.slice.injEq] at e1
      obtain ⟨rfl, _, rfl⟩ := e1
      refine ⟨?_, fun i hi => ?_, (G.out.below BW11.out).outs, (G.out.below BW11.out).ook⟩
      · show Rd w11 130 (some ⟨g, 0, none⟩) (i0.other h p3 :: r0).length c6 ((i0.other h p3 :: r0).flatMap InD.cells)
        rw [List.flatMap_cons, ← RE.out, show (i0.other h p3 :: r0).length = N from by rw [NN.out, IR.out]; rfl]
        exact r1
      · rcases List.mem_cons.1 (show i ∈ i0.other h p3 :: r0 from hi) with rfl | hi
        · exact ⟨i0k.out.tx, i0k.out.out, ⟨by have := P3.out; show -9223372036854775808 ≤ p3; omega, by have := P3.out; show p3 ≤ 9223372036854775807; omega⟩, HH.out, HH.out, HH.out⟩
        · exact G.out.iok i (by rw [IR.out]; exact List.mem_cons_of_mem _ hi))
    have UE := hid hu
    clear hu hp3
    have rT := row_range HA11.out
    go_wp2_with (with_reducible refine wpList_load_mid rfl _ _ rfl w.heap.size 0 rfl tc _ rT Tryd.underlying25 rfl hiT.out ?_)
    refine (CK w11 BW11.out).out.mono ?_
    rintro e w12 ⟨rfl, b12⟩
    have B12 := hid (show Below w.heap.size w w12 from BW11.out.trans (b12.mono BW11.out.size))
    have HA12 := hid (heap_keep HA11.out b12)
    have HU12 := hid (heap_keep HU11.out b12)
    have UG12 := hid (UGD.out.below b12)
    clear b12 rT
    have BH := hid bh0
    by_cases hz : t.code = 0
    case neg =>
      have v2 : ((t.code : Int) != 0) = true := by rw [bne_iff_ne]; omega
      have HZ := hid hz
      have IDZ := hid (show idB t = zh from by unfold idB; rw [if_neg hz])
      clear hz
      have rT2 := row_range HA12.out
      have nq := eql_hv (xs := zh) (ys := zh) zh32.1 zh32.1 zh32.2 zh32.2
      have ng := guard_hv zh zh
      rw [show decide (zh = zh) = true from decide_eq_true rfl] at nq
      unfold hv at nq ng
      go_upto_region 12 with (fail)
      go_wp2_with (with_reducible refine wpList_load_mid rfl _ _ rfl w.heap.size 0 rfl tc _ rT2 Tryd.underlying25 rfl hiT.out ?_)
      refine (CI w12 B12.out).out.mono ?_
      rintro e w13 ⟨rfl, b13⟩
      rw [IDZ.out]
      go_wp2_with (with_reducible refine wpList_build0 rfl _ rfl BH.out ?_)
      go_ret
      exact ⟨rfl, B12.out.trans (b13.mono B12.out.size)⟩
    have v2 : ((t.code : Int) != 0) = false := by rw [bne_eq_false_iff_eq]; omega
    have IDU := hid (show idB u = idB t from by
      rw [UE.out]
      unfold idB
      rw [if_pos hz, if_pos (code_other P3.out IR.out hz _ _), bodyB_other IR.out])
    clear hz
    obtain ⟨id, hid'⟩ : ∃ id, id = idB t := ⟨_, rfl⟩
    have IDE := hid hid'
    have IDO := hid (show H32b id by rw [hid']; exact idB_ok t)
    clear hid'
    have CU := fun (wx : World) (bx : Below w12.heap.size w12 wx) => hid (show Calls Tryd.prog 9 #[.agg ([.slice (some ⟨g, 0, none⟩) N c6, .slice t.oa t.outs.length t.oc] : List Value).toArray] wx (fun e w' => e = .returned (.agg (nums .u8 id).toArray) ∧ Below wx.heap.size wx w') from by have := cid_walk u wx (UG12.out.below bx) ((HT.out.below B12.out).below bx); rw [IDU.out, ← IDE.out, UCE.out] at this; exact this)
    have CT := fun (wx : World) (bx : Below w12.heap.size w12 wx) => hid (show Calls Tryd.prog 9 #[.agg tc.toArray] wx (fun e w' => e = .returned (.agg (nums .u8 id).toArray) ∧ Below wx.heap.size wx w') from by have := CI wx (B12.out.trans (bx.mono B12.out.size)); rw [← IDE.out] at this; exact this.out)
    have nq := eql_hv (xs := id) (ys := id) IDO.out.1 IDO.out.1 IDO.out.2 IDO.out.2
    have ng := guard_hv id id
    rw [show decide (id = id) = true from decide_eq_true rfl] at nq
    unfold hv at nq ng
    have rA := hid (row_range HA12.out)
    have rU := hid (row_range HU12.out)
    go_upto_region 13 with (fail)
    refine wp_region_held_drew (S := fun w' => Below w12.heap.size w12 w') (by kernel_rfl) ((Below.refl _ _).drew) (fun hHeld => ?_)
    try simp only [List.size_toArray, List.length_cons, List.length_nil, Nat.reduceAdd, Array.replicate_succ, Array.replicate_zero, List.push_toArray, List.nil_append, List.cons_append]
    refine' wpAnyH_take (i := 0) (oi := { dst := some 52, op := Op.load 25 (Operand.tmp 3), type := 25, pos := "law.go:367", after := #[], guard := none }) (v := _) rfl (by kernel_rfl) (by kernel_rfl) (by kernel_rfl) (fun _ _ _ h => h) (yieldsIf_load_mid (by rfl) _ _ rfl w.heap.size 0 rfl tc _ (fun _ h => range_keep h rA.out) Tryd.underlying25 rfl hiT.out) hHeld ?_
    (try simp only [Act.put, List.setIfInBounds_toArray, List.set_cons_zero, List.set_cons_succ])
    refine' wpAnyH_take (i := 2) (oi := { dst := some 54, op := Op.load 25 (Operand.tmp 7), type := 25, pos := "law.go:367", after := #[], guard := none }) (v := _) rfl (by kernel_rfl) (by kernel_rfl) (by kernel_rfl) (fun _ _ _ h => h) (yieldsIf_load_mid (by rfl) _ _ rfl U 0 rfl [.slice (some ⟨g, 0, none⟩) N c6, .slice t.oa t.outs.length t.oc] _ (fun _ h => range_keep h rU.out) Tryd.underlying25 rfl UL.out) hHeld ?_
    (try simp only [Act.put, List.setIfInBounds_toArray, List.set_cons_zero, List.set_cons_succ])
    refine wpAnyH_ready (rs := [1]) (by kernel_rfl) (by simp) ?_
    refine AllReadyH.cons (o := { dst := some 53, op := Op.call { callee := Callee.value (Operand.func 9), args := #[Operand.tmp 52], argTypes := #[25] }, type := 27, pos := "law.go:367", after := #[{ on := 0, ground := Ground.data }], guard := none }) rfl (fun K hK => ?_) ?_
    go_simp; refine (CT _ hHeld).out.mono ?_; rintro e wi ⟨rfl, bi⟩; have BI := hid bi; clear bi
    refine hK.out _ _ (hHeld.trans (BI.out.mono hHeld.size)) (fun hHeld => ?_)
    clear hK K
    (try simp only [List.setIfInBounds_toArray, List.set_cons_zero, List.set_cons_succ])
    refine wpAnyH_ready (rs := [3]) (by kernel_rfl) (by simp) ?_
    refine AllReadyH.cons (o := { dst := some 55, op := Op.call { callee := Callee.value (Operand.func 9), args := #[Operand.tmp 54], argTypes := #[25] }, type := 27, pos := "law.go:367", after := #[{ on := 2, ground := Ground.data }, { on := 1, ground := Ground.chain }], guard := none }) rfl (fun K hK => ?_) ?_
    go_simp; refine (CU _ hHeld).out.mono ?_; rintro e wj ⟨rfl, bj⟩; have BJ := hid bj; clear bj
    refine hK.out _ _ (hHeld.trans (BJ.out.mono hHeld.size)) (fun hHeld => ?_)
    clear hK K
    (try simp only [List.setIfInBounds_toArray, List.set_cons_zero, List.set_cons_succ])
    refine wpAnyH_take (i := 4) (oi := { dst := some 56, op := Op.binOp BinOp.eql 27 (Operand.tmp 53) (Operand.tmp 55) 27, type := 4, pos := "law.go:367", after := #[{ on := 1, ground := Ground.data }, { on := 3, ground := Ground.data }], guard := none }) (v := (.bool true)) rfl (by kernel_rfl) (by kernel_rfl) (by kernel_rfl) (fun _ _ _ h => h) (Or.inl ⟨by rfl, fun w _ => by go_simp⟩) hHeld ?_
    (try simp only [Act.put, List.setIfInBounds_toArray, List.set_cons_zero, List.set_cons_succ])
    refine wpAnyH_take (i := 5) (oi := { dst := some 6, op := Op.assign (Operand.tmp 56), type := 4, pos := "law.go:367", after := #[{ on := 4, ground := Ground.data }, { on := 3, ground := Ground.chain }, { on := 0, ground := Ground.phase }, { on := 1, ground := Ground.phase }, { on := 2, ground := Ground.phase }, { on := 3, ground := Ground.phase }, { on := 4, ground := Ground.phase }], guard := none }) (v := ?v1001) rfl (by kernel_rfl) (by kernel_rfl) (by kernel_rfl) (fun _ _ _ h => h) (Or.inl ⟨by rfl, ?hy1001⟩) hHeld ?_
    case hy1001 => (intro w hSw; (try dsimp only at hSw); go_simp; (try with_reducible rfl))
    (try simp only [Act.put, List.setIfInBounds_toArray, List.set_cons_zero, List.set_cons_succ])
    refine wpAnyH_done (by kernel_rfl) ?_ _
    rotate_left
    exact AllReadyH.nil
    exact AllReadyH.nil
    all_goals
      have BF := hid (B12.out.trans (hHeld.mono B12.out.size))
      clear hHeld
      go_wp2_with (fail)
      go_ret
      exact ⟨rfl, BF.out⟩
end Go.Proofs.YtdopbhahcpjjgaaDoor

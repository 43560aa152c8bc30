/- What must wait is not confirmed sooner, and is confirmed then (the statement ChainTimes). -/
import Derived.Test.YtdopbhahcpjjgaaDoorLnv
namespace Go.Proofs.YtdopbhahcpjjgaaDoor
open Go.RowKit

theorem and15i (n : Int) : bits .and .i64 n 15 = n % 16 := by
  have h127 : (BitVec.ofInt 64 15).toNat = 2 ^ 4 - 1 := by decide
  have key : (BitVec.ofInt 64 n &&& BitVec.ofInt 64 15).toNat = (n % ((2 ^ 64 : Nat) : Int)).toNat % 2 ^ 4 := by
    rw [BitVec.toNat_and, BitVec.toNat_ofInt, h127, Nat.and_two_pow_sub_one_eq_mod]
  show IntKind.i64.wrap ((BitVec.ofInt 64 n &&& BitVec.ofInt 64 15).toNat : Nat) = n % 16
  rw [key, IntKind.wrap_i64]
  omega
set_option maxRecDepth 100000 in
theorem bPathW' (p q : Int) (a0 a1 a2 a3 a4 a5 a6 a7 a8 a9 a10 a11 a12 a13 a14 a15 a16 a17 a18 a19 a20 a21 a22 a23 a24 a25 a26 a27 a28 a29 a30 a31 : Nat) : Tryd.prog.built 61 [(0, .agg (nums .u8 [a0, a1, a2, a3, a4, a5, a6, a7, a8, a9, a10, a11, a12, a13, a14, a15, a16, a17, a18, a19, a20, a21, a22, a23, a24, a25, a26, a27, a28, a29, a30, a31]).toArray), (3, .int .i64 p), (4, .int .i64 q)] = some (PathD.cells ⟨[a0, a1, a2, a3, a4, a5, a6, a7, a8, a9, a10, a11, a12, a13, a14, a15, a16, a17, a18, a19, a20, a21, a22, a23, a24, a25, a26, a27, a28, a29, a30, a31], zh, zh, p, q⟩).toArray := by kernel_rfl
theorem bPathW (x : List Nat) (p q : Int) (h : x.length = 32) : Tryd.prog.built 61 [(0, .agg (nums .u8 x).toArray), (3, .int .i64 p), (4, .int .i64 q)] = some (PathD.cells ⟨x, zh, zh, p, q⟩).toArray := by
  match x, h with
  | [a0, a1, a2, a3, a4, a5, a6, a7, a8, a9, a10, a11, a12, a13, a14, a15, a16, a17, a18, a19, a20, a21, a22, a23, a24, a25, a26, a27, a28, a29, a30, a31], _ => exact bPathW' p q ..
theorem wpList_build3w {P : Program} {ops : Array Oper} {rest : List Oper} {o : Oper} {a : Act} {w : World} {Q : Exit → Act → World → Prop} (hg : o.guard = none) (t : TypeId) (i0 i1 i2 : Nat) (x0 x1 x2 : Operand) (ho : o.op = .build t #[(i0, x0), (i1, x1), (i2, x2)])
    {v0 v1 v2 : Value} {cells : Array Value} (hb : P.built t [(i0, v0), (i1, v1), (i2, v2)] = some cells) (h0 : a.eval x0 = v0) (h1 : a.eval x1 = v1) (h2 : a.eval x2 = v2)
    (h : wpList P ops Q rest (a.put o.dst (.agg cells)) w) : wpList P ops Q (o :: rest) a w := by
  have hv : ((#[(i0, x0), (i1, x1), (i2, x2)] : Array (Nat × Operand)).map fun (i, x) => (i, a.eval x)).toList = [(i0, v0), (i1, v1), (i2, v2)] := by simp [h0, h1, h2]
  exact wpList_build hg t _ ho (by rw [hv, hb]; rfl) (by rw [hv, hb]; exact h)
/-- the path that must wait -/
def pathW (x : List Nat) (a b : Nat) : PathD := ⟨x, zh, zh, (a : Int), (b : Int)⟩
theorem pathW_ok {x : List Nat} {a b : Nat} (h : H32b x) (ha : a < 16) (hb : b < 16) : (pathW x a b).ok := ⟨h, zh32, zh32, ⟨by show -9223372036854775808 ≤ (a : Int); omega, by show (a : Int) ≤ 9223372036854775807; omega⟩, ⟨by show -9223372036854775808 ≤ (b : Int); omega, by show (b : Int) ≤ 9223372036854775807; omega⟩⟩
def outW (g : Nat) (x : List Nat) (a b : Nat) : OutD := ⟨5, some ⟨g, 0, none⟩, 1, [pathW x a b], zh⟩
theorem outW_code {g : Nat} {x : List Nat} {a b : Nat} (ha : a < 16) (hb : b < 16) : (outW g x a b).code = 0 := by
  unfold OutD.code outW
  have h1 : (pathW x a b).bad = false := by
    unfold PathD.bad pathW
    exact decide_eq_false (by dsimp only; omega)
  simp [h1]
set_option maxRecDepth 100000 in
set_option maxHeartbeats 16000000 in
theorem lawTimes (wt un bl : Int) (w : World) (ht : Tabs w) :
    Calls Tryd.prog 5 #[.int .i64 wt, .int .i64 un, .int .i64 bl] w (fun e w' => e = .returned (.bool true) ∧ Below w.heap.size w w') := by
  have HT := hid ht
  obtain ⟨W0, hW0, hW1⟩ : ∃ W0 : Nat, bits .and .i64 wt 15 = (W0 : Int) ∧ W0 < 16 := ⟨(wt % 16).toNat, by rw [and15i]; omega, by omega⟩
  obtain ⟨U0, hU0, hU1⟩ : ∃ U0 : Nat, bits .and .i64 un 15 = (U0 : Int) ∧ U0 < 16 := ⟨(un % 16).toNat, by rw [and15i]; omega, by omega⟩
  obtain ⟨B0, hB0, hB1⟩ : ∃ B0 : Nat, bits .and .i64 bl 31 = (B0 : Int) ∧ B0 < 32 := ⟨(bl % 32).toNat, by rw [and31i]; omega, by omega⟩
  have WB := hid (show W0 < 16 ∧ U0 < 16 ∧ B0 < 32 from ⟨hW1, hU1, hB1⟩)
  have BH9 := hid bh9
  obtain ⟨s1, hs1⟩ : ∃ s1, s1 = h9x := ⟨_, rfl⟩
  have S1 := hid (show H32b s1 by rw [hs1]; exact h9_ok)
  rw [← hs1] at BH9
  have hiS := hid (show (Tryd.prog.info? 27).map (·.size) = some (nums .u8 s1).length by rw [nums_length, S1.out.1]; kernel_rfl)
  have hiSa := hid (show (Tryd.prog.info? 27).map (·.size) = some (nums .u8 s1).toArray.size by rw [List.size_toArray, nums_length, S1.out.1]; kernel_rfl)
  have hoS := hid (show 32 = (nums .u8 s1).toArray.size by rw [List.size_toArray, nums_length, S1.out.1])
  have h1S := hid (all_oneCell_toArray (nums_oneCell .u8 s1))
  clear ht hW1 hU1 hB1 hs1
  go_enter Tryd.func5, Tryd.ntmps5
  go_upto_region 1 with (fail)
  go_wp2_with (fail)
  refine (chead_walk w HT.out).mono ?_
  rintro e wh ⟨rfl, ba⟩
  have BA := hid ba
  clear ba
  go_upto_region 6 with (fail)
  go_wp2_with (fail)
  refine (onew_walk wh).mono ?_
  rintro e w1 ⟨ob, mb, rfl, off, lo, lm, b1⟩
  have OFF := hid off
  have LO := hid lo
  have LM := hid lm
  have B1 := hid b1
  clear off lo lm b1
  go_wp2_with (fail)
  refine (cnew_walk ob w1).mono ?_
  rintro e w2 ⟨cb, hm, dm, wm, sm, rfl, hc, m1, m2, m3, m4, ord, b2⟩
  have L2 := hid (led_new (HT.out.below BA.out) OFF.out LO.out LM.out B1.out hc m1 m2 m3 m4 ord b2)
  have B2 := hid (show Below w.heap.size w w2 from (BA.out.trans (B1.out.mono BA.out.size)).trans (b2.mono (Nat.le_trans BA.out.size B1.out.size)))
  have WA := hid (show w.heap.size ≤ wh.heap.size from BA.out.size)
  clear hc m1 m2 m3 m4 ord b2 OFF LO LM B1
  have OD := hid L2.out.ord
  go_upto_region 8 with (fail)
  go_upto_region 9 with (first | with_reducible refine wpList_build1 rfl _ _ rfl BH9.out rfl ?_ | (refine wpList_store_row rfl _ _ _ rfl w2.heap.size (nums .u8 s1).toArray rfl rfl _ _ (heap_alloc_new _ _) hiSa.out hoS.out h1S.out ?_; refine laidW (F := fun w4 => wpList _ _ _ _ _ w4) ?_; intro w3 h3 b3))
  have HS3 := hid h3.out
  have B23 := hid b3.out
  have SB := hid (show w2.heap.size < w3.heap.size from (Array.getElem?_eq_some_iff.1 h3.out).1)
  clear h3 b3
  obtain ⟨sb, hsb⟩ : ∃ sb, sb = w2.heap.size := ⟨_, rfl⟩
  have SBE := hid hsb
  rw [← hsb] at HS3 ⊢
  clear hsb
  have rS := row_range HS3.out
  go_wp2_with (with_reducible refine wpList_load_mid rfl _ _ rfl sb 0 rfl (nums .u8 s1) _ rS Tryd.underlying27 rfl hiS.out ?_)
  refine (owner_walk s1 S1.out.1 S1.out.2 w3 ((HT.out.below B2.out).below B23.out)).mono ?_
  rintro e wo ⟨rfl, bo⟩
  obtain ⟨x1, hx1⟩ : ∃ x1, x1 = ownD s1 := ⟨_, rfl⟩
  have X1 := hid (show H32b x1 from by rw [hx1]; exact ⟨(ownD_ok s1).1, (ownD_ok s1).2⟩)
  have XE := hid hx1
  rw [show hv (ownD s1) = .agg (nums .u8 (ownD s1)).toArray from rfl, ← hx1]
  have B2o := hid (B23.out.trans (bo.mono B23.out.size))
  have HSo := hid (heap_keep HS3.out bo)
  clear bo rS hx1
  have BPW := hid (bPathW x1 (W0 : Int) (U0 : Int) X1.out.1)
  obtain ⟨pcs, hpcs⟩ : ∃ pcs, pcs = (pathW x1 W0 U0).cells := ⟨_, rfl⟩
  have PCE := hid hpcs
  have PCL := hid (show pcs.toArray.size = 98 by rw [hpcs, List.size_toArray, PathD.len (pathW_ok X1.out WB.out.1 WB.out.2.1)])
  rw [show PathD.cells ⟨x1, zh, zh, (W0 : Int), (U0 : Int)⟩ = pcs from by rw [hpcs]; rfl] at BPW
  have hPi := hid (show (Tryd.prog.info? 61).map (·.size) = some 98 by kernel_rfl)
  have hPz := hid (show ((Tryd.prog.info? 61).bind (·.zero)).isSome = true by kernel_rfl)
  have BO := hid (bOut 5 (some ⟨wo.heap.size, 0, none⟩) 1 1)
  obtain ⟨o1, ho1⟩ : ∃ o1, o1 = outW wo.heap.size x1 W0 U0 := ⟨_, rfl⟩
  rw [show (Value.int .u64 5 :: Value.slice (some ⟨wo.heap.size, 0, none⟩) 1 1 :: nums .u8 zh) = o1.cells from by rw [ho1]; rfl] at BO
  have O1 := hid ho1
  clear hpcs ho1
  go_wp2_with (first | with_reducible refine wpList_build3w rfl _ _ _ _ _ _ _ rfl BPW.out rfl rfl rfl ?_ | with_reducible refine wpList_lit1 rfl _ _ _ rfl rfl Tryd.underlying39 hPi.out hPz.out PCL.out (by decide) (by decide) ?_ | with_reducible refine wpList_build2 rfl _ _ _ rfl BO.out rfl rfl ?_)
  have hRp := heap_alloc_new wo (.cells pcs.toArray 61)
  have bp := (Below.refl wo.heap.size wo).alloc (Nat.le_refl _) (.cells pcs.toArray 61)
  have B2p := hid (show Below w2.heap.size w2 (wo.alloc (.cells pcs.toArray 61)) from B2o.out.trans (bp.mono B2o.out.size))
  have GO1 := hid (show o1.good (wo.alloc (.cells pcs.toArray 61)) from by
    rw [O1.out]
    refine ⟨by show 5 < 18446744073709551616; decide, zh32, ?_, fun q hq => ?_⟩
    · show Rd _ 98 (some ⟨wo.heap.size, 0, none⟩) 1 1 ([pathW x1 W0 U0].flatMap PathD.cells)
      rw [show [pathW x1 W0 U0].flatMap PathD.cells = pcs from by rw [PCE.out]; simp]
      exact rd_of_row hRp (by have := PCL.out; simpa using this)
    · have hq' : q ∈ [pathW x1 W0 U0] := hq
      rw [List.mem_singleton] at hq'
      rw [hq']; exact pathW_ok X1.out WB.out.1 WB.out.2.1)
  have HSp := hid (heap_keep HSo.out bp)
  have WOL := hid (show w2.heap.size ≤ wo.heap.size from B2o.out.size)
  have GV := hid (cgive_walk (L2.out.below B2p.out) (by decide) (by decide) o1 GO1.out (by rw [O1.out]; intro ad ha; cases ha; have := OD.out; have := WOL.out; show wo.heap.size ≠ cb; omega))
  clear hRp bp
  generalize wo.alloc (.cells pcs.toArray 61) = wp at *
  refine GV.out.mono ?_
  rintro e w4 hgv
  rcases hgv with ⟨hn, _⟩ | ⟨hz, rfl, ⟨a1, k1, of1, l4⟩, k4⟩
  · exact absurd (by rw [O1.out]; exact outW_code WB.out.1 WB.out.2.1) hn
  have L4 := hid l4
  have OF1 := hid of1
  have B2w := hid (show Below w.heap.size w wp from B2.out.trans (B2p.out.mono B2.out.size))
  have B4 := hid (show Below w.heap.size w w4 from B2w.out.trans (k4.below (fun i h => by have := OD.out; have := WA.out; omega) B2w.out.size))
  have Z1 := hid hz
  have HS4 := hid (k4.heap HSp.out (by have := OD.out; have := SBE.out; omega))
  clear hz l4 of1 k4 GV
  obtain ⟨gd, hgd⟩ : ∃ gd, gd = giftD (0 + 1) := ⟨_, rfl⟩
  have GD := hid (show H32b gd from by rw [hgd]; exact ⟨sha_len _, sha_lt _⟩)
  rw [← hgd] at L4 ⊢
  clear hgd
  obtain ⟨pp, hpp⟩ : ∃ pp, pp = ptI gd 0 := ⟨_, rfl⟩
  rw [← hpp]
  have PPL := hid (show pp.length = 33 from by rw [hpp]; simp [ptI, GD.out.1])
  have hiPP := hid (show (Tryd.prog.info? 31).map (·.size) = some pp.length by rw [PPL.out]; kernel_rfl)
  have hiPA := hid (show (Tryd.prog.info? 31).map (·.size) = some pp.toArray.size by rw [List.size_toArray, PPL.out]; kernel_rfl)
  have hoPA := hid (show 33 = pp.toArray.size by rw [List.size_toArray, PPL.out])
  have h1PA := hid (show (pp.toArray.all fun x => x.oneCell') = true by rw [hpp]; exact all_oneCell_toArray (ptI_one gd 0))
  have BIN := hid (show Tryd.prog.built 33 [(0, .agg pp.toArray)] = some (oneX gd zh).cells.toArray from by rw [hpp]; exact bIn gd GD.out.1)
  clear hpp
  go_upto_region 10 with (refine wpList_store_row rfl _ _ _ rfl w4.heap.size pp.toArray rfl rfl _ _ (heap_alloc_new _ _) hiPA.out hoPA.out h1PA.out ?_; refine laidW (F := fun w4 => wpList _ _ _ _ _ w4) ?_; intro w5 h5 b5)
  have HP5 := hid h5.out
  have B5 := hid (show Below w.heap.size w w5 from B4.out.trans (b5.out.mono B4.out.size))
  have L5 := hid (L4.out.below b5.out)
  have HS5 := hid (heap_keep HS4.out b5.out)
  have PB := hid (show w4.heap.size < w5.heap.size from (Array.getElem?_eq_some_iff.1 h5.out).1)
  have PB2 := hid (show w2.heap.size ≤ w4.heap.size from L4.out.le)
  have rSB := hid (row_range HS5.out)
  clear h5 b5
  generalize w4.heap.size = pb at *
  have GP1 := hid (show o1.paths = [pathW x1 W0 U0] ∧ o1.coins = 5 from by rw [O1.out]; exact ⟨rfl, rfl⟩)
  have OS1 := hid (show H32b (ownD s1) from ⟨(ownD_ok s1).1, (ownD_ok s1).2⟩)
  rename_i K aK
  have MID : ∀ (ib g2 o2 tb : Nat) (u40 u41 u42 u43 u44 u45 u46 : Value) (wz : World), w5.heap.size ≤ ib → w5.heap.size ≤ g2 → w5.heap.size ≤ o2 → w5.heap.size ≤ tb → ib ≠ g2 → ib ≠ o2 → ib ≠ tb → TxRow wz ib o2 tb gd zh (mineO 5 g2 (ownD s1)) → Below w5.heap.size w5 wz → K ⟨List.toArray (Value.int IntKind.i64 (W0 : Int) :: Value.int IntKind.i64 (U0 : Int) :: Value.int IntKind.i64 (B0 : Int) :: undef :: undef :: undef :: Value.bool false :: Value.pointer (some ⟨ob, 0, none⟩) :: Value.pointer (some ⟨cb, 0, none⟩) :: Value.pointer (some ⟨sb, 0, none⟩) :: Value.pointer (some ⟨pb, 0, none⟩) :: Value.int IntKind.i64 0 :: (.pointer (some ⟨tb, 0, none⟩)) :: undef :: undef :: undef :: Value.bool true :: Value.bool false :: Value.int IntKind.i64 wt :: Value.int IntKind.i64 (W0 : Int) :: Value.int IntKind.i64 un :: Value.int IntKind.i64 (U0 : Int) :: Value.int IntKind.i64 bl :: Value.int IntKind.i64 (B0 : Int) :: Value.pointer (some ⟨ob, 0, none⟩) :: Value.pointer (some ⟨ob, 0, none⟩) :: Value.pointer (some ⟨cb, 0, none⟩) :: Value.agg (nums IntKind.u8 s1).toArray :: Value.tuple #[Value.agg pp.toArray, Value.int IntKind.i64 0] :: Value.pointer (some ⟨cb, 0, none⟩) :: Value.agg (nums IntKind.u8 s1).toArray :: Value.agg (nums IntKind.u8 x1).toArray :: Value.int IntKind.i64 (W0 : Int) :: Value.int IntKind.i64 (U0 : Int) :: Value.agg pcs.toArray :: Value.slice (some ⟨wo.heap.size, 0, none⟩) 1 1 :: Value.agg o1.cells.toArray :: Value.tuple #[Value.agg pp.toArray, Value.int IntKind.i64 0] :: Value.agg pp.toArray :: Value.int IntKind.i64 0 :: u40 :: u41 :: u42 :: u43 :: u44 :: u45 :: u46 :: undef :: undef :: undef :: undef :: undef :: undef :: undef :: undef :: undef :: undef :: undef :: undef :: undef :: undef :: undef :: undef :: undef :: undef :: undef :: undef :: undef :: undef :: undef :: undef :: undef :: undef :: undef :: undef :: undef :: undef :: undef :: undef :: undef :: undef :: undef :: undef :: undef :: undef :: undef :: undef :: undef :: undef :: undef :: undef :: undef :: undef :: undef :: undef :: undef :: undef :: undef :: []), []⟩ wz := by
    intro ib g2 o2 tb u40 u41 u42 u43 u44 u45 u46 wz l1 l2 l3 l4 n1 n2 n3 hrow bz
    refine aK _ _ ?_
    have RW := hid hrow
    have BZ := hid bz
    have LZ := hid (L5.out.below bz)
    have N := hid (show w5.heap.size ≤ ib ∧ w5.heap.size ≤ g2 ∧ w5.heap.size ≤ o2 ∧ w5.heap.size ≤ tb ∧ ib ≠ g2 ∧ ib ≠ o2 ∧ ib ≠ tb from ⟨l1, l2, l3, l4, n1, n2, n3⟩)
    have SBL := hid (show w2.heap.size < w5.heap.size from by have := PB.out; have := PB2.out; omega)
    have OM := hid (show ob < w2.heap.size ∧ mb < w2.heap.size ∧ w2.heap.size ≤ w5.heap.size from by have := OD.out; have := PB.out; have := PB2.out; omega)
    clear hrow bz l1 l2 l3 l4 n1 n2 n3
    go_upto_region 11 with (fail)
    obtain ⟨o, ho⟩ : ∃ o, o = mineO 5 g2 (ownD s1) := ⟨_, rfl⟩
    have OE := hid ho
    rw [← ho] at RW
    have ZO := hid (show o.code = 0 from by rw [ho]; exact mineO_code _ _ _)
    have CO := hid (show o.coins = 5 from by rw [ho]; rfl)
    have PO4 := hid (show o.paths.length = 1 from by rw [ho]; rfl)
    clear ho
    obtain ⟨id, hid'⟩ : ∃ id, id = oneId gd o := ⟨_, rfl⟩
    have IDE := hid hid'
    have IDO := hid (show H32b id from by rw [hid']; exact ⟨sha_len _, sha_lt _⟩)
    clear hid'
    have TG := hid (RW.out.good GD.out zh32)
    have CI := fun (wx : World) (bx : Below wz.heap.size wz wx) => hid (show Calls Tryd.prog 9 #[.agg (#[.slice (some ⟨ib, 0, none⟩) 1 1, .slice (some ⟨o2, 0, none⟩) 1 1] : Array Value)] wx (fun e w' => e = .returned (.agg (nums .u8 id).toArray) ∧ Below wx.heap.size wx w') from by have := cid_walk (rowT ib o2 gd zh o) wx (TG.out.below bx) (LZ.out.tabs.below bx); rw [show idB (rowT ib o2 gd zh o) = id from by rw [IDE.out]; exact oneT_id' ZO.out (by rw [CO.out]; decide)] at this; exact this)
    have k0 := hid (show wz.cell? ⟨tb, 0, none⟩ = some (.slice (some ⟨ib, 0, none⟩) 1 1) from gen_cell (j := 0) (row_range RW.out.r3) rfl)
    have rT := hid (row_range RW.out.r3)
    have hiT := hid (show (Tryd.prog.info? 25).map (·.size) = some ([.slice (some ⟨ib, 0, none⟩) 1 1, .slice (some ⟨o2, 0, none⟩) 1 1] : List Value).length by kernel_rfl)
    obtain ⟨no, nole, mo⟩ := LZ.out.off
    have MO := hid mo
    have NO0 := hid nole
    obtain ⟨tk, htk⟩ : ∃ tk, tk = tokD s1 id := ⟨_, rfl⟩
    have TKE := hid htk
    have TKO := hid (show H32b tk from by rw [htk]; exact ⟨(tokD_ok s1 id).1, (tokD_ok s1 id).2⟩)
    have hiK := hid (show (Tryd.prog.info? 27).map (·.size) = some (nums .u8 tk).toArray.size by rw [List.size_toArray, nums_length, TKO.out.1]; kernel_rfl)
    have h1K := hid (all_oneCell_toArray (nums_oneCell .u8 tk))
    clear mo nole htk
    refine wp_region_X (l := 6) (S := fun b w' => Keep (fun i => i = ob ∨ i = mb ∨ i = ib) wz w' ∧ (b = false → Below wz.heap.size wz w')) (by kernel_rfl) (⟨Keep.of (Below.refl _ _).drew, fun _ => (Below.refl _ _).drew⟩) (fun hHeld => ?_)
    try simp only [List.size_toArray, List.length_cons, List.length_nil, Nat.reduceAdd, Array.replicate_succ, Array.replicate_zero, List.push_toArray, List.nil_append, List.cons_append]
    refine wpAnyX_takeA (i := 0) (oi := { dst := some 47, op := Op.fieldAddr 25 (Operand.tmp 12) 0, type := 0, pos := "law.go:333", after := #[], guard := none }) (v := ?v1001) rfl (by kernel_rfl) (by kernel_rfl) (by kernel_rfl) (fun _ _ _ h => h) rfl (by kernel_rfl) (fun _ h => ⟨h.1, nofun⟩) (b := false) (by kernel_rfl) (Or.inl ⟨by rfl, ?hy1001⟩) hHeld ?_
    case hy1001 => (intro w hSw; (try dsimp only at hSw); go_simp; (try with_reducible rfl))
    (try simp only [Act.put, List.setIfInBounds_toArray, List.set_cons_zero, List.set_cons_succ])
    refine wpAnyX_takeA (i := 1) (oi := { dst := some 48, op := Op.load 22 (Operand.tmp 47), type := 22, pos := "law.go:333", after := #[{ on := 0, ground := Ground.data }], guard := none }) (v := (.slice (some ⟨ib, 0, none⟩) 1 1)) rfl (by kernel_rfl) (by kernel_rfl) (by kernel_rfl) (fun _ _ _ h => h) rfl (by kernel_rfl) (fun _ h => ⟨h.1, nofun⟩) (b := false) (by kernel_rfl) (Or.inl ⟨by rfl, fun w h => by have c9 := h.1.cell k0.out (fun e => by have := N.out; have := OM.out; dsimp only at e; omega); go_simp⟩) hHeld ?_
    (try simp only [Act.put, List.setIfInBounds_toArray, List.set_cons_zero, List.set_cons_succ])
    refine wpAnyX_takeE (i := 2) (oi := { dst := some 49, op := Op.move (Operand.tmp 7), type := 45, pos := "law.go:333", after := #[], guard := none }) (v := ?v1002) rfl (by kernel_rfl) (by kernel_rfl) (by kernel_rfl) (fun _ _ _ h => h) rfl (by kernel_rfl) (by kernel_rfl) (by kernel_rfl) (Or.inl ⟨by rfl, ?hy1002⟩) hHeld ?_
    case hy1002 => (intro w hSw; (try dsimp only at hSw); go_simp; (try with_reducible rfl))
    (try simp only [Act.put, List.setIfInBounds_toArray, List.set_cons_zero, List.set_cons_succ])
    refine' wpAnyX_takeE (i := 3) (oi := { dst := some 50, op := Op.load 27 (Operand.tmp 9), type := 27, pos := "law.go:333", after := #[], guard := none }) (v := _) rfl (by kernel_rfl) (by kernel_rfl) (by kernel_rfl) (fun _ _ _ h => h) rfl (by kernel_rfl) (by kernel_rfl) (by kernel_rfl) (yieldsIf_load_mid (by rfl) _ _ rfl sb 0 rfl (nums .u8 s1) _ (fun _ h => h.1.range (range_keep BZ.out rSB.out) (fun e => by have := N.out; have := OM.out; have := SBE.out; have := SBL.out; omega)) Tryd.underlying27 rfl hiS.out) hHeld ?_
    (try simp only [Act.put, List.setIfInBounds_toArray, List.set_cons_zero, List.set_cons_succ])
    refine' wpAnyX_takeA (i := 4) (oi := { dst := some 51, op := Op.load 25 (Operand.tmp 12), type := 25, pos := "law.go:333", after := #[], guard := none }) (v := _) rfl (by kernel_rfl) (by kernel_rfl) (by kernel_rfl) (fun _ _ _ h => h) rfl (by kernel_rfl) (fun _ h => ⟨h.1, nofun⟩) (b := false) (by kernel_rfl) (yieldsIf_load_mid (by rfl) _ _ rfl tb 0 rfl [.slice (some ⟨ib, 0, none⟩) 1 1, .slice (some ⟨o2, 0, none⟩) 1 1] _ (fun _ h => h.1.range rT.out (fun e => by have := N.out; have := OM.out; omega)) Tryd.underlying25 rfl hiT.out) hHeld ?_
    (try simp only [Act.put, List.setIfInBounds_toArray, List.set_cons_zero, List.set_cons_succ])
    refine wpAnyX_ready (rs := [5]) (by kernel_rfl) (by simp) ?_
    refine AllReadyX.cons (o := { dst := some 52, op := Op.call { callee := Callee.value (Operand.func 9), args := #[Operand.tmp 51], argTypes := #[25] }, type := 27, pos := "law.go:333", after := #[{ on := 4, ground := Ground.data }], guard := none }) rfl (b := false) (by kernel_rfl) (fun K hK => ?_) ?_
    go_simp; refine (CI _ (hHeld.2 rfl)).out.mono ?_; rintro e wi ⟨rfl, bi⟩; have BI := hid bi; clear bi
    refine hK.out _ _ (⟨hHeld.1.trans (Keep.of BI.out), fun e => (hHeld.2 e).trans (BI.out.mono (hHeld.2 e).size)⟩) (fun hHeld => ?_)
    clear hK K
    (try simp only [List.setIfInBounds_toArray, List.set_cons_zero, List.set_cons_succ])
    refine wpAnyX_ready (rs := [6]) (by kernel_rfl) (by simp) ?_
    refine AllReadyX.cons (o := { dst := some 53, op := Op.call { callee := Callee.value (Operand.func 20), args := #[Operand.tmp 49, Operand.tmp 50, Operand.tmp 52], argTypes := #[45, 27, 27] }, type := 27, pos := "law.go:333", after := #[{ on := 2, ground := Ground.data }, { on := 3, ground := Ground.data }, { on := 5, ground := Ground.data }, { on := 5, ground := Ground.chain }], guard := none }) rfl (b := true) (by kernel_rfl) (fun K hK => ?_) ?_
    have BB := hid (hHeld.2 rfl); go_simp; refine (allow_walk s1 id S1.out IDO.out ob mb no (fun _ => none) _ (MO.out.below BB.out) (by have := NO0.out; omega) (LZ.out.tabs.below BB.out)).mono ?_; rintro e wa ⟨rfl, oa, fa⟩; have OA := hid oa; have FA := hid (show Keep (fun i => i = ob ∨ i = mb) wz wa from (Keep.of BB.out).trans ⟨fa.os, fa.tape, fa.output, fa.size, fun i hi hn => fa.block i hi (fun e => hn (.inl e)) (fun e => hn (.inr e))⟩); clear oa fa; rw [← TKE.out, show hv tk = .agg (nums .u8 tk).toArray from rfl]
    refine hK.out _ _ (⟨FA.out.mono (fun i h => by omega), nofun⟩) (fun hHeld => ?_)
    clear hK K
    (try simp only [List.setIfInBounds_toArray, List.set_cons_zero, List.set_cons_succ])
    refine wpAnyX_takeA (i := 7) (oi := { dst := some 54, op := Op.indexAddr 22 (Operand.tmp 48) (Operand.const (Value.int IntKind.i64 0)), type := 0, pos := "law.go:333", after := #[{ on := 1, ground := Ground.data }, { on := 0, ground := Ground.phase }, { on := 1, ground := Ground.phase }, { on := 2, ground := Ground.phase }, { on := 3, ground := Ground.phase }, { on := 4, ground := Ground.phase }, { on := 5, ground := Ground.phase }, { on := 6, ground := Ground.phase }], guard := none }) (v := (.pointer (some ⟨ib, 0, none⟩))) rfl (by kernel_rfl) (by kernel_rfl) (by kernel_rfl) (fun _ _ _ h => h) rfl (by kernel_rfl) (fun _ h => ⟨h.1, nofun⟩) (b := true) (by kernel_rfl) (Or.inl ⟨by rfl, fun w _ => by go_simp⟩) hHeld ?_
    (try simp only [Act.put, List.setIfInBounds_toArray, List.set_cons_zero, List.set_cons_succ])
    refine wpAnyX_takeA (i := 8) (oi := { dst := some 55, op := Op.fieldAddr 33 (Operand.tmp 54) 2, type := 0, pos := "law.go:333", after := #[{ on := 7, ground := Ground.data }, { on := 0, ground := Ground.phase }, { on := 1, ground := Ground.phase }, { on := 2, ground := Ground.phase }, { on := 3, ground := Ground.phase }, { on := 4, ground := Ground.phase }, { on := 5, ground := Ground.phase }, { on := 6, ground := Ground.phase }], guard := none }) (v := (.pointer (some ⟨ib, 34, none⟩))) rfl (by kernel_rfl) (by kernel_rfl) (by kernel_rfl) (fun _ _ _ h => h) rfl (by kernel_rfl) (fun _ h => ⟨h.1, nofun⟩) (b := true) (by kernel_rfl) (Or.inl ⟨by rfl, fun w _ => by go_simp⟩) hHeld ?_
    (try simp only [Act.put, List.setIfInBounds_toArray, List.set_cons_zero, List.set_cons_succ])
    refine wpAnyX_ready (rs := [9]) (by kernel_rfl) (by simp) ?_
    refine AllReadyX.cons (o := { dst := none, op := Op.store 27 (Operand.tmp 55) (Operand.tmp 53), type := 0, pos := "law.go:333", after := #[{ on := 8, ground := Ground.data }, { on := 6, ground := Ground.data }, { on := 6, ground := Ground.chain }, { on := 0, ground := Ground.phase }, { on := 1, ground := Ground.phase }, { on := 2, ground := Ground.phase }, { on := 3, ground := Ground.phase }, { on := 4, ground := Ground.phase }, { on := 5, ground := Ground.phase }, { on := 6, ground := Ground.phase }], guard := none }) rfl (b := true) (by kernel_rfl) (fun K hK => ?_) ?_
    have rIb := FA.out.heap RW.out.r1 (fun e => by have := N.out; have := OM.out; omega); rw [if_pos (by rfl)]; refine wp_store_mid _ _ _ rfl ib 34 (nums .u8 tk).toArray rfl rfl (tag_there rIb (by rw [List.size_toArray, List.size_toArray, nums_length, TKO.out.1, InD.len (oneX_ok GD.out zh32)]; decide)) hiK.out h1K.out ?_
    refine hK.out _ _ (⟨(FA.out.mono (fun i h => by omega)).trans (Keep.far (far_setCells _ _ _) (.inr (.inr rfl))), nofun⟩) (fun hHeld => ?_)
    clear hK K
    (try simp only [List.setIfInBounds_toArray, List.set_cons_zero, List.set_cons_succ])
    refine wpAnyX_done (by kernel_rfl) ?_ _
    rotate_left
    exact AllReadyX.nil
    exact AllReadyX.nil
    exact AllReadyX.nil
    have K7 := hid hHeld.1
    clear hHeld
    have R1 := hid (show (wa.setCells ib 34 (nums .u8 tk).toArray.toList).heap[ib]? = some (.cells (oneX gd tk).cells.toArray 33 (0, 0)) from by have := heap_putL (nums .u8 tk) 34 wa _ rIb; rw [oneX_tok GD.out.1 TKO.out.1] at this; exact this)
    have F7 := hid (show Far ib wa (wa.setCells ib 34 (nums .u8 tk).toArray.toList) from far_setCells _ _ _)
    have OA7 := hid (OA.out.far F7.out (by have := N.out; have := OM.out; omega) (by have := N.out; have := OM.out; omega))
    clear rIb
    generalize wa.setCells ib 34 (nums .u8 tk).toArray.toList = w7 at *
    have K57 := hid (show Keep (fun i => i = ob ∨ i = mb) w5 w7 from ((Keep.of BZ.out).trans FA.out).then (Keep.far' F7.out) (fun i hi e => by have := N.out; omega))
    have n1le : allN (fun _ => none) no s1 id ≤ no + 1 := by unfold allN; split <;> omega
    have L7 := hid (L5.out.office K57.out OA7.out (by have := NO0.out; omega) (by decide))
    have RW7 := hid (show TxRow w7 ib o2 tb gd tk o from ⟨R1.out, K7.out.heap RW.out.r2 (by have := N.out; have := OM.out; show ¬ (o2 = ob ∨ o2 = mb ∨ o2 = ib); omega), K7.out.heap RW.out.r3 (by have := N.out; have := OM.out; show ¬ (tb = ob ∨ tb = mb ∨ tb = ib); omega), RW.out.og.keepN' K7.out (fun ad ha => by rw [OE.out] at ha; cases ha; have := N.out; have := OM.out; show ¬ (g2 = ob ∨ g2 = mb ∨ g2 = ib); omega)⟩)
    obtain ⟨tx, htx⟩ : ∃ tx, tx = rowT ib o2 gd tk o := ⟨_, rfl⟩
    have TXE := hid htx
    have TG7 := hid (show tx.good w7 from by rw [htx]; exact RW7.out.good GD.out TKO.out)
    have CLT := hid (show o.coins < 18446744073709551616 from by rw [CO.out]; decide)
    have IDT := hid (show idB tx = id from by rw [htx, IDE.out]; exact oneT_id' ZO.out CLT.out)
    have HD := hid (show (upd (fun _ => none) (gd, 0) (some ⟨o1.at' a1 k1, 0⟩) : HM') (gd, 0) = some ⟨o1.at' a1 k1, 0⟩ from by unfold upd; rw [if_pos rfl])
    have TRYH := hid (fun (ht : Int) (SM : SM') (ia : Option Addr) (ic : Nat) (oa : Option Addr) (oc : Nat) (a : Option Addr) (k : Nat) => show tryC (upd (fun _ => none) (gd, 0) (some ⟨o1.at' a1 k1, 0⟩)) SM (allM (fun _ => none) s1 id) ht (oneT ia ic oa oc gd tk (o.at' a k)) = if ht + 1 < (U0 : Int) ∨ ht + 1 - 0 < (W0 : Int) then 33 else 0 from
      one_try (SM := SM) (M := allM (fun _ => none) s1 id) (ht := ht) (ia := ia) (ic := ic) (oa := oa) (oc := oc) (tok := tk) (o := o.at' a k) ZO.out CLT.out HD.out (q := pathW x1 W0 U0) (by show o1.paths = _; exact GP1.out.1) (by show o1.coins < _; rw [GP1.out.2]; decide) (by show o.coins ≤ o1.coins; rw [GP1.out.2, CO.out]; decide) (by rw [show oneId gd (o.at' a k) = oneId gd o from rfl, ← IDE.out, TKE.out, show (pathW x1 W0 U0).own = ownD s1 from XE.out]; exact allow_aldB s1 id))
    have TRY0 := hid (show tryC (upd (fun _ => none) (gd, 0) (some ⟨o1.at' a1 k1, 0⟩)) (fun _ => none) (allM (fun _ => none) s1 id) 0 tx = 0 ∨ tryC (upd (fun _ => none) (gd, 0) (some ⟨o1.at' a1 k1, 0⟩)) (fun _ => none) (allM (fun _ => none) s1 id) 0 tx = 33 from by
      rw [htx]
      have := TRYH.out 0 (fun _ => none) (some ⟨ib, 0, none⟩) 1 (some ⟨o2, 0, none⟩) 1 o.pa o.pc
      unfold rowT
      rw [show o.at' o.pa o.pc = o from rfl] at this
      rw [this]
      split
      · exact .inr rfl
      · exact .inl rfl)
    have EASY := hid (show ∀ x ∈ tx.ins, easyIn (upd (fun _ => none) (gd, 0) (some ⟨o1.at' a1 k1, 0⟩)) (allM (fun _ => none) s1 id) (idB tx) x from by
      rw [htx]
      intro x hx
      have hx' : x ∈ [oneX gd tk] := hx
      rw [List.mem_singleton] at hx'
      rw [hx']
      exact one_easy HD.out (q := pathW x1 W0 U0) (by show o1.paths = _; exact GP1.out.1) rfl rfl)
    have SND := hid (csend_ok L7.out tx TG7.out EASY.out (oneX gd tk) o (by rw [htx]; rfl) (by rw [htx]; rfl) (by rw [PO4.out]; decide) TRY0.out)
    have TXC := hid (show tx.cells = ([.slice (some ⟨ib, 0, none⟩) 1 1, .slice (some ⟨o2, 0, none⟩) 1 1] : List Value) from by rw [htx]; rfl)
    rw [TXC.out] at SND
    clear htx
    have rT7 := row_range RW7.out.r3
    go_upto_region 12 with (fail)
    go_wp2_with (with_reducible refine wpList_load_midG rfl _ _ rfl tb 0 rfl [.slice (some ⟨ib, 0, none⟩) 1 1, .slice (some ⟨o2, 0, none⟩) 1 1] _ rT7 Tryd.underlying25 rfl hiT.out ?_)
    refine SND.out.mono ?_
    rintro e w8 ⟨rfl, ia, ic, oa, oc, a2, k2, P, hpool, l8, k8⟩
    have PL8 := hid (hpool.weak L7.out.le)
    have L8 := hid l8
    have K8 := hid k8
    clear hpool l8 k8 rT7
    obtain ⟨t8, ht8⟩ : ∃ t8, t8 = oneT ia ic oa oc gd tk (o.at' a2 k2) := ⟨_, rfl⟩
    have T8 := hid ht8
    have PL8' := hid (show PoolAt w8 w2.heap.size P t8 from by rw [ht8]; exact PL8.out)
    have ID8 := hid (show idB t8 = id from by rw [ht8, IDE.out]; exact oneT_id ZO.out CLT.out a2 k2)
    obtain ⟨HM0, hHM0⟩ : ∃ HM0 : HM', HM0 = upd (fun _ => none) (gd, 0) (some ⟨o1.at' a1 k1, 0⟩) := ⟨_, rfl⟩
    obtain ⟨MM, hMM⟩ : ∃ MM : EM, MM = allM (fun _ => none) s1 id := ⟨_, rfl⟩
    have TRY := hid (fun (ht : Int) => show tryC HM0 (fun _ => none) MM ht t8 = if ht + 1 < (U0 : Int) ∨ ht + 1 - 0 < (W0 : Int) then 33 else 0 from by rw [ht8, hHM0, hMM]; exact TRYH.out ht (fun _ => none) ia ic oa oc a2 k2)
    have EASY8 := hid (show ∀ x ∈ t8.ins, easyIn HM0 MM (idB t8) x from by
      rw [ht8, hHM0, hMM]
      intro x hx
      have hx' : x ∈ [oneX gd tk] := hx
      rw [List.mem_singleton] at hx'
      rw [hx']
      exact one_easy HD.out (q := pathW x1 W0 U0) (by show o1.paths = _; exact GP1.out.1) rfl rfl)
    have L8' := hid (show Led w8 wh.heap.size w2.heap.size ob mb hm dm wm sm cb 0 (0 + 1) P HM0 (fun _ => none) MM (0 + 1 + 1) from by rw [hHM0, hMM]; exact L8.out)
    have TINS := hid (show t8.ins = [oneX gd tk] ∧ t8.outs = [o.at' a2 k2] from by rw [ht8]; exact ⟨rfl, rfl⟩)
    have PO8 := hid (show (o.at' a2 k2).paths.length ≤ 4 from by show o.paths.length ≤ 4; rw [PO4.out]; decide)
    obtain ⟨WM, hWM⟩ : ∃ WM, WM = max (max W0 U0) 1 := ⟨_, rfl⟩
    have WME := hid hWM
    have WMB := hid (show W0 ≤ WM ∧ U0 ≤ WM ∧ 1 ≤ WM ∧ (WM = W0 ∨ WM = U0 ∨ WM = 1) ∧ WM ≤ 16 from by have := WB.out; omega)
    clear hHM0 hMM hWM ht8 L8 PL8 SND TRY0 EASY
    go_upto_region 16 with (fail)
    go_loopw [13, 14] (fun x13 x14 wr => ∃ i : Nat, i ≤ B0 ∧ x14 = .int .i64 (i : Int) ∧ Keep (fun j => j = cb ∨ j = hm ∨ j = sm ∨ j = dm ∨ j = wm) w8 wr ∧
      ((i < WM ∧ x13 = .int .i64 (-1) ∧ ∃ P', PoolAt wr w2.heap.size P' t8 ∧ Led wr wh.heap.size w2.heap.size ob mb hm dm wm sm cb (i : Int) (0 + 1) P' HM0 (fun _ => none) MM (0 + 1 + 1)) ∨
       (WM ≤ i ∧ x13 = .int .i64 (WM : Int) ∧ ∃ HM2 SM2 c2, Led wr wh.heap.size w2.heap.size ob mb hm dm wm sm cb (i : Int) (0 + 1) (.slice none 0 0) HM2 SM2 MM c2))) (fun _ x14 _ => B0 - (intOf x14).toNat)
    case atStart => exact ⟨0, Nat.zero_le _, rfl, Keep.refl _ _, .inl ⟨by have := WMB.out; omega, rfl, P, PL8'.out, L8'.out⟩⟩
    case round =>
      obtain ⟨i, hi, rfl, hk, hc⟩ := hrel
      have KK := hid hk
      clear hk
      by_cases hlt : i < B0
      case neg =>
        obtain rfl : i = B0 := by omega
        have u1 : decide (i < i) = false := decide_eq_false (by omega)
        have u2 : decide ((i : Int) < (i : Int)) = false := decide_eq_false (by omega)
        clear hi hlt
        have hmx : (if (if W0 < U0 then (U0 : Int) else (W0 : Int)) < 1 then (1 : Int) else if W0 < U0 then (U0 : Int) else (W0 : Int)) = (WM : Int) := by
          have := WME.out
          split <;> split at * <;> omega
        have FIN := hid (fun (wx : World) (bx : Below wr.heap.size wr wx) => show Below w.heap.size w wx from by
          have k58 : Keep (fun i => w.heap.size ≤ i) w wr := (((Keep.of B5.out).trans (K57.out.mono fun i h => by have := OD.out; have := WA.out; show w.heap.size ≤ i; omega)).trans (K8.out.mono fun i h => by have := OD.out; have := WA.out; show w.heap.size ≤ i; omega)).trans (KK.out.mono fun i h => by have := OD.out; have := WA.out; show w.heap.size ≤ i; omega)
          have b1 := k58.below (B := w.heap.size) (fun i h => h) (Nat.le_refl _)
          exact b1.trans (bx.mono b1.size))
        rcases hc with ⟨hw, rfl, P', pl, l⟩ | ⟨hw, rfl, HM2, SM2, c2, l⟩
        · have y1 : decide (i < WM) = true := decide_eq_true hw
          have y2 : decide ((i : Int) < (WM : Int)) = true := decide_eq_true (by omega)
          have y3 : ((-1 : Int) == -1) = true := by decide
          have y4 : ((1 : Int) == 1) = true := by decide
          obtain ⟨gq, kq, eP, rq, bq⟩ := pl.ex
          subst eP
          have WW := hid (cwaits_walk l.ch [t8] rfl (by simpa using rq) (fun q hq => by rw [List.mem_singleton] at hq; rw [hq]; exact pl.good) (by decide) l.tabs)
          clear hw pl l rq bq
          go_upto_region 22 with (fail)
          clear hmx
          go_wp2_with (fail)
          refine WW.out.mono ?_
          rintro e w13 ⟨v13, rfl, o13, b13⟩
          obtain ⟨a13, c13, rfl, _⟩ := Rd.of_owns o13
          rw [show [t8].length = 1 from rfl]
          have B13 := hid b13
          clear o13 b13 WW
          go_wp2_with (fail)
          go_ret
          exact ⟨rfl, FIN.out w13 B13.out⟩
        · have y1 : decide (i < WM) = false := decide_eq_false (by omega)
          have y2 : decide ((i : Int) < (WM : Int)) = false := decide_eq_false (by omega)
          have y3 : ((WM : Int) == (WM : Int)) = true := beq_self_eq_true _
          have y4 : ((0 : Int) == 0) = true := by decide
          have WW := hid (cwaits_walk l.ch [] rfl ⟨by simp, Nat.le_refl _, by decide, fun _ => rfl, 0, 0, fun h => absurd h (by decide), by simp⟩ (fun q hq => by cases hq) (by decide) l.tabs)
          clear hw l
          go_upto_region 23 with (fail)
          clear hmx
          go_wp2_with (fail)
          refine WW.out.mono ?_
          rintro e w13 ⟨v13, rfl, o13, b13⟩
          obtain ⟨a13, c13, rfl, _⟩ := Rd.of_owns o13
          rw [show ([] : List TxD).length = 0 from rfl]
          have B13 := hid b13
          clear o13 b13 WW
          go_wp2_with (fail)
          go_ret
          exact ⟨rfl, FIN.out w13 B13.out⟩
      have u1 : decide (i < B0) = true := decide_eq_true hlt
      have u2 : decide ((i : Int) < (B0 : Int)) = true := decide_eq_true (by omega)
      obtain ⟨i1', hi1'⟩ : ∃ i1, i1 = i + 1 := ⟨_, rfl⟩
      have r4 : IntKind.i64.wrap ((i : Int) + 1) = (i1' : Int) := by have := WB.out; rw [IntKind.wrap_i64]; omega
      have I1 := hid (And.intro hi1' hlt)
      clear hi hlt hi1'
      rcases hc with ⟨hw, rfl, P', pl, l⟩ | ⟨hw, rfl, HM2, SM2, c2, l⟩
      · by_cases hn : i + 1 < WM
        · have T1 := TRY.out (i : Int)
          rw [if_pos (by have := WMB.out; omega)] at T1
          have T2 := TRY.out ((i : Int) + 1)
          have MN := hid (cmineB_walk l (by have := WB.out; have := I1.out; omega) t8 pl EASY8.out T1 (by rw [T2]; split; exact .inr rfl; exact .inl rfl))
          have v3 : ((0 : Int) == 1) = false := by decide
          have HN := hid hn
          clear hw pl l hn T1 T2
          go_upto_region 18 with (fail)
          go_wp2_with (fail)
          refine MN.out.mono ?_
          rintro e w13 ⟨rfl, ⟨P13, pl13, l13⟩, k13⟩
          have L13 := hid l13
          have PL13 := hid pl13
          have K13 := hid k13
          clear l13 k13 pl13 MN
          go_wp2_with (fail)
          go_roundw
          case rel => exact ⟨i1', by have := I1.out; omega, rfl, KK.out.trans (K13.out.mono fun j h => .inl h), .inl ⟨by have := I1.out; have := HN.out; omega, rfl, P13, PL13.out, by have := L13.out; rw [show ((i : Int) + 1) = (i1' : Int) from by have := I1.out; omega] at this; exact this⟩⟩
          case measure => simp [intOf]; have := I1.out; omega
        · have T1 := TRY.out (i : Int)
          rw [if_neg (by have := WMB.out; omega)] at T1
          have MN := hid (cmineA_walk l (by have := WB.out; have := I1.out; omega) (by decide) t8 pl (oneX gd tk) (o.at' a2 k2) TINS.out.1 TINS.out.2 PO8.out EASY8.out T1)
          have v3 : ((1 : Int) == 1) = true := by decide
          have HN := hid (show i1' = WM from by have := I1.out; omega)
          clear hw pl l hn T1
          go_upto_region 18 with (fail)
          go_wp2_with (fail)
          refine MN.out.mono ?_
          rintro e w13 ⟨⟨g13, q13, rfl⟩, ⟨a13, k13', l13⟩, k13⟩
          have L13 := hid l13
          have K13 := hid k13
          have HE := hid (cheight_walk l13.ch)
          clear l13 k13 MN
          go_wp2_with (fail)
          refine HE.out.mono ?_
          rintro e w14 ⟨rfl, rfl⟩
          go_wp2_with (fail)
          go_roundw
          case rel => exact ⟨i1', by have := I1.out; omega, rfl, KK.out.trans K13.out, .inr ⟨by have := HN.out; omega, by rw [show ((i : Int) + 1) = (WM : Int) from by have := I1.out; have := HN.out; omega], _, _, _, by have := L13.out; rw [show ((i : Int) + 1) = (i1' : Int) from by have := I1.out; omega] at this; exact this⟩⟩
          case measure => simp [intOf]; have := I1.out; omega
      · have MN := hid (cmine0_walk l (by have := WB.out; have := I1.out; omega))
        have v3 : ((0 : Int) == 1) = false := by decide
        have HW := hid hw
        clear hw l
        go_upto_region 18 with (fail)
        go_wp2_with (fail)
        refine MN.out.mono ?_
        rintro e w13 ⟨rfl, l13, k13⟩
        have L13 := hid l13
        have K13 := hid k13
        clear l13 k13 MN
        go_wp2_with (fail)
        go_roundw
        case rel => exact ⟨i1', by have := I1.out; omega, rfl, KK.out.trans (K13.out.mono fun j h => .inl h), .inr ⟨by have := I1.out; have := HW.out; omega, rfl, HM2, SM2, c2, by have := L13.out; rw [show ((i : Int) + 1) = (i1' : Int) from by have := I1.out; omega] at this; exact this⟩⟩
        case measure => simp [intOf]; have := I1.out; omega
  have MID := hid MID
  have rP := hid (row_range HP5.out)
  have hIi := hid (show (Tryd.prog.info? 33).map (·.size) = some 130 by kernel_rfl)
  have hIz := hid (show ((Tryd.prog.info? 33).bind (·.zero)).isSome = true by kernel_rfl)
  have hIl := hid (show (oneX gd zh).cells.toArray.size = 130 by rw [List.size_toArray]; exact InD.len (oneX_ok GD.out zh32))
  have hOi := hid (show (Tryd.prog.info? 41).map (·.size) = some 34 by kernel_rfl)
  have hOz := hid (show ((Tryd.prog.info? 41).bind (·.zero)).isSome = true by kernel_rfl)
  have hOl := hid (show ∀ g, (mineO 5 g (ownD s1)).cells.toArray.size = 34 from fun g => rfl)
  have BTX := fun (a : Option Addr) (n c : Nat) (a' : Option Addr) (n' c' : Nat) => bTx (.slice a n c) (.slice a' n' c') ⟨_, _, _, rfl⟩ ⟨_, _, _, rfl⟩
  have hT1 := hid (fun (a : Option Addr) (n c : Nat) (a' : Option Addr) (n' c' : Nat) => show (#[Value.slice a n c, .slice a' n' c'] : Array Value).all (·.oneCell') = true from by simp [Value.oneCell'])
  have hTa := hid (show ∀ a b : Value, (Tryd.prog.info? 25).map (·.size) = some (#[a, b] : Array Value).size from fun a b => by kernel_rfl)
  refine wp_region_held_drew (S := fun w' => Below w5.heap.size w5 w') (by kernel_rfl) ((Below.refl _ _).drew) (fun hHeld => ?_)
  try simp only [List.size_toArray, List.length_cons, List.length_nil, Nat.reduceAdd, Array.replicate_succ, Array.replicate_zero, List.push_toArray, List.nil_append, List.cons_append]
  refine' wpAnyH_take (i := 0) (oi := { dst := some 40, op := Op.load 31 (Operand.tmp 10), type := 31, pos := "law.go:332", after := #[], guard := none }) (v := _) rfl (by kernel_rfl) (by kernel_rfl) (by kernel_rfl) (fun _ _ _ h => h) (yieldsIf_load_mid (by rfl) _ _ rfl pb 0 rfl pp _ (fun _ h => range_keep h rP.out) Tryd.underlying31 rfl hiPP.out) hHeld ?_
  (try simp only [Act.put, List.setIfInBounds_toArray, List.set_cons_zero, List.set_cons_succ])
  refine wpAnyH_take (i := 1) (oi := { dst := some 41, op := Op.build 33 #[(0, Operand.tmp 40)], type := 33, pos := "law.go:332", after := #[{ on := 0, ground := Ground.data }], guard := none }) (v := (.agg (oneX gd zh).cells.toArray)) rfl (by kernel_rfl) (by kernel_rfl) (by kernel_rfl) (fun _ _ _ h => h) (Or.inl ⟨by rfl, fun w _ => run_build1' rfl rfl BIN.out⟩) hHeld ?_
  (try simp only [Act.put, List.setIfInBounds_toArray, List.set_cons_zero, List.set_cons_succ])
  refine' wpAnyH_take (i := 3) (oi := { dst := some 43, op := Op.load 27 (Operand.tmp 9), type := 27, pos := "law.go:332", after := #[], guard := none }) (v := _) rfl (by kernel_rfl) (by kernel_rfl) (by kernel_rfl) (fun _ _ _ h => h) (yieldsIf_load_mid (by rfl) _ _ rfl sb 0 rfl (nums .u8 s1) _ (fun _ h => range_keep h rSB.out) Tryd.underlying27 rfl hiS.out) hHeld ?_
  (try simp only [Act.put, List.setIfInBounds_toArray, List.set_cons_zero, List.set_cons_succ])
  refine wpAnyH_ready (rs := [2, 4, 7]) (by kernel_rfl) (by simp) ?_
  refine AllReadyH.cons (o := { dst := some 42, op := Op.buildSlice 22 1 #[(0, Operand.tmp 41)], type := 22, pos := "law.go:332", after := #[{ on := 1, ground := Ground.data }], guard := none }) rfl (fun K hK => ?_) ?_
  have zi := hHeld.size; rw [if_pos (by rfl)]; refine wp_lit1 _ _ _ rfl rfl Tryd.underlying22 hIi.out hIz.out hIl.out (by decide) (by decide) ?_; (first | refine newZ ?_ | refine newZd ?_); intro wi hi bi; obtain ⟨ib, hib⟩ := named hi; have HI := hid hi; have BI := hid bi; have xi := (Array.getElem?_eq_some_iff.1 hi).1; clear hi bi
  refine hK.out _ _ (by first | exact hHeld.trans (BI.out.mono hHeld.size) | exact BI.out) (fun hHeld => ?_)
  clear hK K
  (try simp only [List.setIfInBounds_toArray, List.set_cons_zero, List.set_cons_succ])
  refine wpAnyH_ready (rs := [4, 7]) (by kernel_rfl) (by simp) ?_
  refine AllReadyH.cons (o := { dst := some 44, op := Op.call { callee := Callee.value (Operand.func 19), args := #[Operand.const (Value.int IntKind.u64 5), Operand.tmp 43], argTypes := #[38, 27] }, type := 41, pos := "law.go:332", after := #[{ on := 3, ground := Ground.data }], guard := none }) rfl (fun K hK => ?_) ?_
  have zm := hHeld.size; go_simp; refine (cmine_walk 5 (by decide) s1 S1.out _ (L5.out.tabs.below hHeld)).mono ?_; rintro e wq ⟨g2, rfl, lg2, gd2, bm⟩; have GD2 := hid gd2; have BM := hid bm; have xm := mineO_lt gd2 OS1.out.1; have ym := bm.size; clear gd2 bm
  refine hK.out _ _ (hHeld.trans (BM.out.mono hHeld.size)) (fun hHeld => ?_)
  clear hK K
  (try simp only [List.setIfInBounds_toArray, List.set_cons_zero, List.set_cons_succ])
  refine wpAnyH_ready (rs := [5, 7]) (by kernel_rfl) (by simp) ?_
  refine AllReadyH.cons (o := { dst := some 45, op := Op.buildSlice 23 1 #[(0, Operand.tmp 44)], type := 23, pos := "law.go:332", after := #[{ on := 4, ground := Ground.data }], guard := none }) rfl (fun K hK => ?_) ?_
  have zo := hHeld.size; rw [if_pos (by rfl)]; refine wp_lit1 _ _ _ rfl rfl Tryd.underlying23 hOi.out hOz.out (hOl.out _) (by decide) (by decide) ?_; (first | refine newZ ?_ | refine newZd ?_); intro wo ho bo; obtain ⟨o2, ho2⟩ := named ho; have HO := hid ho; have BO := hid bo; have xo := (Array.getElem?_eq_some_iff.1 ho).1; clear ho bo
  refine hK.out _ _ (by first | exact hHeld.trans (BO.out.mono hHeld.size) | exact BO.out) (fun hHeld => ?_)
  clear hK K
  (try simp only [List.setIfInBounds_toArray, List.set_cons_zero, List.set_cons_succ])
  refine wpAnyH_take (i := 6) (oi := { dst := some 46, op := Op.build 25 #[(0, Operand.tmp 42), (1, Operand.tmp 45)], type := 25, pos := "law.go:332", after := #[{ on := 2, ground := Ground.data }, { on := 5, ground := Ground.data }], guard := none }) (v := ?v2001) rfl (by kernel_rfl) (by kernel_rfl) (by kernel_rfl) (fun _ _ _ h => h) (Or.inl ⟨by rfl, ?hy2001⟩) hHeld ?_
  case hy2001 => (intro w hSw; (try dsimp only at hSw); go_simp; (try with_reducible rfl))
  (try simp only [Act.put, List.setIfInBounds_toArray, List.set_cons_zero, List.set_cons_succ])
  refine wpAnyH_ready (rs := [7]) (by kernel_rfl) (by simp) ?_
  refine AllReadyH.cons (o := { dst := some 12, op := Op.alloc 25, type := 0, pos := "law.go:332", after := #[], guard := none }) rfl (fun K hK => ?_) ?_
  have za := hHeld.size; go_simp; (first | refine newZ ?_ | refine newZd ?_); intro wa ha ba; have HA := hid ha; have BA := hid ba; have xa := (Array.getElem?_eq_some_iff.1 ha).1; clear ha ba
  refine hK.out _ _ (by first | exact hHeld.trans (BA.out.mono hHeld.size) | exact BA.out) (fun hHeld => ?_)
  clear hK K
  (try simp only [List.setIfInBounds_toArray, List.set_cons_zero, List.set_cons_succ])
  refine wpAnyH_ready (rs := [8]) (by kernel_rfl) (by simp) ?_
  refine AllReadyH.cons (o := { dst := none, op := Op.store 25 (Operand.tmp 12) (Operand.tmp 46), type := 0, pos := "law.go:332", after := #[{ on := 7, ground := Ground.data }, { on := 6, ground := Ground.data }, { on := 4, ground := Ground.chain }, { on := 0, ground := Ground.phase }, { on := 1, ground := Ground.phase }, { on := 2, ground := Ground.phase }, { on := 3, ground := Ground.phase }, { on := 4, ground := Ground.phase }, { on := 5, ground := Ground.phase }, { on := 6, ground := Ground.phase }, { on := 7, ground := Ground.phase }], guard := none }) rfl (fun K hK => ?_) ?_
  rw [if_pos (by rfl)]; refine wp_store_row _ _ _ rfl _ _ rfl rfl _ _ (by (repeat (first | exact HI.out | exact HO.out | exact HA.out | refine heap_keep ?_ BM.out | refine heap_keep ?_ BO.out | refine heap_keep ?_ BA.out | refine heap_keep ?_ BI.out))) (hTa.out _ _) (by rfl) (hT1.out _ _ _ _ _ _) ?_
  refine hK.out _ _ (below_setRow hHeld (by omega) _) (fun hHeld => ?_)
  clear hK K
  (try simp only [List.setIfInBounds_toArray, List.set_cons_zero, List.set_cons_succ])
  refine wpAnyH_done (by kernel_rfl) ?_ _
  rotate_left
  exact AllReadyH.nil
  exact AllReadyH.nil
  refine AllReadyH.cons (o := { dst := some 12, op := Op.alloc 25, type := 0, pos := "law.go:332", after := #[], guard := none }) rfl (fun K hK => ?_) ?_
  have za := hHeld.size; go_simp; (first | refine newZ ?_ | refine newZd ?_); intro wa ha ba; have HA := hid ha; have BA := hid ba; have xa := (Array.getElem?_eq_some_iff.1 ha).1; clear ha ba
  refine hK.out _ _ (by first | exact hHeld.trans (BA.out.mono hHeld.size) | exact BA.out) (fun hHeld => ?_)
  clear hK K
  (try simp only [List.setIfInBounds_toArray, List.set_cons_zero, List.set_cons_succ])
  refine wpAnyH_ready (rs := [5]) (by kernel_rfl) (by simp) ?_
  refine AllReadyH.cons (o := { dst := some 45, op := Op.buildSlice 23 1 #[(0, Operand.tmp 44)], type := 23, pos := "law.go:332", after := #[{ on := 4, ground := Ground.data }], guard := none }) rfl (fun K hK => ?_) ?_
  have zo := hHeld.size; rw [if_pos (by rfl)]; refine wp_lit1 _ _ _ rfl rfl Tryd.underlying23 hOi.out hOz.out (hOl.out _) (by decide) (by decide) ?_; (first | refine newZ ?_ | refine newZd ?_); intro wo ho bo; obtain ⟨o2, ho2⟩ := named ho; have HO := hid ho; have BO := hid bo; have xo := (Array.getElem?_eq_some_iff.1 ho).1; clear ho bo
  refine hK.out _ _ (by first | exact hHeld.trans (BO.out.mono hHeld.size) | exact BO.out) (fun hHeld => ?_)
  clear hK K
  (try simp only [List.setIfInBounds_toArray, List.set_cons_zero, List.set_cons_succ])
  refine wpAnyH_take (i := 6) (oi := { dst := some 46, op := Op.build 25 #[(0, Operand.tmp 42), (1, Operand.tmp 45)], type := 25, pos := "law.go:332", after := #[{ on := 2, ground := Ground.data }, { on := 5, ground := Ground.data }], guard := none }) (v := ?v2002) rfl (by kernel_rfl) (by kernel_rfl) (by kernel_rfl) (fun _ _ _ h => h) (Or.inl ⟨by rfl, ?hy2002⟩) hHeld ?_
  case hy2002 => (intro w hSw; (try dsimp only at hSw); go_simp; (try with_reducible rfl))
  (try simp only [Act.put, List.setIfInBounds_toArray, List.set_cons_zero, List.set_cons_succ])
  refine wpAnyH_ready (rs := [8]) (by kernel_rfl) (by simp) ?_
  refine AllReadyH.cons (o := { dst := none, op := Op.store 25 (Operand.tmp 12) (Operand.tmp 46), type := 0, pos := "law.go:332", after := #[{ on := 7, ground := Ground.data }, { on := 6, ground := Ground.data }, { on := 4, ground := Ground.chain }, { on := 0, ground := Ground.phase }, { on := 1, ground := Ground.phase }, { on := 2, ground := Ground.phase }, { on := 3, ground := Ground.phase }, { on := 4, ground := Ground.phase }, { on := 5, ground := Ground.phase }, { on := 6, ground := Ground.phase }, { on := 7, ground := Ground.phase }], guard := none }) rfl (fun K hK => ?_) ?_
  rw [if_pos (by rfl)]; refine wp_store_row _ _ _ rfl _ _ rfl rfl _ _ (by (repeat (first | exact HI.out | exact HO.out | exact HA.out | refine heap_keep ?_ BM.out | refine heap_keep ?_ BO.out | refine heap_keep ?_ BA.out | refine heap_keep ?_ BI.out))) (hTa.out _ _) (by rfl) (hT1.out _ _ _ _ _ _) ?_
  refine hK.out _ _ (below_setRow hHeld (by omega) _) (fun hHeld => ?_)
  clear hK K
  (try simp only [List.setIfInBounds_toArray, List.set_cons_zero, List.set_cons_succ])
  refine wpAnyH_done (by kernel_rfl) ?_ _
  rotate_left
  exact AllReadyH.nil
  exact AllReadyH.nil
  exact AllReadyH.nil
  refine AllReadyH.cons (o := { dst := some 12, op := Op.alloc 25, type := 0, pos := "law.go:332", after := #[], guard := none }) rfl (fun K hK => ?_) ?_
  have za := hHeld.size; go_simp; (first | refine newZ ?_ | refine newZd ?_); intro wa ha ba; have HA := hid ha; have BA := hid ba; have xa := (Array.getElem?_eq_some_iff.1 ha).1; clear ha ba
  refine hK.out _ _ (by first | exact hHeld.trans (BA.out.mono hHeld.size) | exact BA.out) (fun hHeld => ?_)
  clear hK K
  (try simp only [List.setIfInBounds_toArray, List.set_cons_zero, List.set_cons_succ])
  refine wpAnyH_ready (rs := [4]) (by kernel_rfl) (by simp) ?_
  refine AllReadyH.cons (o := { dst := some 44, op := Op.call { callee := Callee.value (Operand.func 19), args := #[Operand.const (Value.int IntKind.u64 5), Operand.tmp 43], argTypes := #[38, 27] }, type := 41, pos := "law.go:332", after := #[{ on := 3, ground := Ground.data }], guard := none }) rfl (fun K hK => ?_) ?_
  have zm := hHeld.size; go_simp; refine (cmine_walk 5 (by decide) s1 S1.out _ (L5.out.tabs.below hHeld)).mono ?_; rintro e wq ⟨g2, rfl, lg2, gd2, bm⟩; have GD2 := hid gd2; have BM := hid bm; have xm := mineO_lt gd2 OS1.out.1; have ym := bm.size; clear gd2 bm
  refine hK.out _ _ (hHeld.trans (BM.out.mono hHeld.size)) (fun hHeld => ?_)
  clear hK K
  (try simp only [List.setIfInBounds_toArray, List.set_cons_zero, List.set_cons_succ])
  refine wpAnyH_ready (rs := [5]) (by kernel_rfl) (by simp) ?_
  refine AllReadyH.cons (o := { dst := some 45, op := Op.buildSlice 23 1 #[(0, Operand.tmp 44)], type := 23, pos := "law.go:332", after := #[{ on := 4, ground := Ground.data }], guard := none }) rfl (fun K hK => ?_) ?_
  have zo := hHeld.size; rw [if_pos (by rfl)]; refine wp_lit1 _ _ _ rfl rfl Tryd.underlying23 hOi.out hOz.out (hOl.out _) (by decide) (by decide) ?_; (first | refine newZ ?_ | refine newZd ?_); intro wo ho bo; obtain ⟨o2, ho2⟩ := named ho; have HO := hid ho; have BO := hid bo; have xo := (Array.getElem?_eq_some_iff.1 ho).1; clear ho bo
  refine hK.out _ _ (by first | exact hHeld.trans (BO.out.mono hHeld.size) | exact BO.out) (fun hHeld => ?_)
  clear hK K
  (try simp only [List.setIfInBounds_toArray, List.set_cons_zero, List.set_cons_succ])
  refine wpAnyH_take (i := 6) (oi := { dst := some 46, op := Op.build 25 #[(0, Operand.tmp 42), (1, Operand.tmp 45)], type := 25, pos := "law.go:332", after := #[{ on := 2, ground := Ground.data }, { on := 5, ground := Ground.data }], guard := none }) (v := ?v2003) rfl (by kernel_rfl) (by kernel_rfl) (by kernel_rfl) (fun _ _ _ h => h) (Or.inl ⟨by rfl, ?hy2003⟩) hHeld ?_
  case hy2003 => (intro w hSw; (try dsimp only at hSw); go_simp; (try with_reducible rfl))
  (try simp only [Act.put, List.setIfInBounds_toArray, List.set_cons_zero, List.set_cons_succ])
  refine wpAnyH_ready (rs := [8]) (by kernel_rfl) (by simp) ?_
  refine AllReadyH.cons (o := { dst := none, op := Op.store 25 (Operand.tmp 12) (Operand.tmp 46), type := 0, pos := "law.go:332", after := #[{ on := 7, ground := Ground.data }, { on := 6, ground := Ground.data }, { on := 4, ground := Ground.chain }, { on := 0, ground := Ground.phase }, { on := 1, ground := Ground.phase }, { on := 2, ground := Ground.phase }, { on := 3, ground := Ground.phase }, { on := 4, ground := Ground.phase }, { on := 5, ground := Ground.phase }, { on := 6, ground := Ground.phase }, { on := 7, ground := Ground.phase }], guard := none }) rfl (fun K hK => ?_) ?_
  rw [if_pos (by rfl)]; refine wp_store_row _ _ _ rfl _ _ rfl rfl _ _ (by (repeat (first | exact HI.out | exact HO.out | exact HA.out | refine heap_keep ?_ BM.out | refine heap_keep ?_ BO.out | refine heap_keep ?_ BA.out | refine heap_keep ?_ BI.out))) (hTa.out _ _) (by rfl) (hT1.out _ _ _ _ _ _) ?_
  refine hK.out _ _ (below_setRow hHeld (by omega) _) (fun hHeld => ?_)
  clear hK K
  (try simp only [List.setIfInBounds_toArray, List.set_cons_zero, List.set_cons_succ])
  refine wpAnyH_done (by kernel_rfl) ?_ _
  rotate_left
  exact AllReadyH.nil
  exact AllReadyH.nil
  exact AllReadyH.nil
  exact AllReadyH.nil
  refine AllReadyH.cons (o := { dst := some 44, op := Op.call { callee := Callee.value (Operand.func 19), args := #[Operand.const (Value.int IntKind.u64 5), Operand.tmp 43], argTypes := #[38, 27] }, type := 41, pos := "law.go:332", after := #[{ on := 3, ground := Ground.data }], guard := none }) rfl (fun K hK => ?_) ?_
  have zm := hHeld.size; go_simp; refine (cmine_walk 5 (by decide) s1 S1.out _ (L5.out.tabs.below hHeld)).mono ?_; rintro e wq ⟨g2, rfl, lg2, gd2, bm⟩; have GD2 := hid gd2; have BM := hid bm; have xm := mineO_lt gd2 OS1.out.1; have ym := bm.size; clear gd2 bm
  refine hK.out _ _ (hHeld.trans (BM.out.mono hHeld.size)) (fun hHeld => ?_)
  clear hK K
  (try simp only [List.setIfInBounds_toArray, List.set_cons_zero, List.set_cons_succ])
  refine wpAnyH_ready (rs := [2, 5, 7]) (by kernel_rfl) (by simp) ?_
  refine AllReadyH.cons (o := { dst := some 42, op := Op.buildSlice 22 1 #[(0, Operand.tmp 41)], type := 22, pos := "law.go:332", after := #[{ on := 1, ground := Ground.data }], guard := none }) rfl (fun K hK => ?_) ?_
  have zi := hHeld.size; rw [if_pos (by rfl)]; refine wp_lit1 _ _ _ rfl rfl Tryd.underlying22 hIi.out hIz.out hIl.out (by decide) (by decide) ?_; (first | refine newZ ?_ | refine newZd ?_); intro wi hi bi; obtain ⟨ib, hib⟩ := named hi; have HI := hid hi; have BI := hid bi; have xi := (Array.getElem?_eq_some_iff.1 hi).1; clear hi bi
  refine hK.out _ _ (by first | exact hHeld.trans (BI.out.mono hHeld.size) | exact BI.out) (fun hHeld => ?_)
  clear hK K
  (try simp only [List.setIfInBounds_toArray, List.set_cons_zero, List.set_cons_succ])
  refine wpAnyH_ready (rs := [5, 7]) (by kernel_rfl) (by simp) ?_
  refine AllReadyH.cons (o := { dst := some 45, op := Op.buildSlice 23 1 #[(0, Operand.tmp 44)], type := 23, pos := "law.go:332", after := #[{ on := 4, ground := Ground.data }], guard := none }) rfl (fun K hK => ?_) ?_
  have zo := hHeld.size; rw [if_pos (by rfl)]; refine wp_lit1 _ _ _ rfl rfl Tryd.underlying23 hOi.out hOz.out (hOl.out _) (by decide) (by decide) ?_; (first | refine newZ ?_ | refine newZd ?_); intro wo ho bo; obtain ⟨o2, ho2⟩ := named ho; have HO := hid ho; have BO := hid bo; have xo := (Array.getElem?_eq_some_iff.1 ho).1; clear ho bo
  refine hK.out _ _ (by first | exact hHeld.trans (BO.out.mono hHeld.size) | exact BO.out) (fun hHeld => ?_)
  clear hK K
  (try simp only [List.setIfInBounds_toArray, List.set_cons_zero, List.set_cons_succ])
  refine wpAnyH_take (i := 6) (oi := { dst := some 46, op := Op.build 25 #[(0, Operand.tmp 42), (1, Operand.tmp 45)], type := 25, pos := "law.go:332", after := #[{ on := 2, ground := Ground.data }, { on := 5, ground := Ground.data }], guard := none }) (v := ?v2004) rfl (by kernel_rfl) (by kernel_rfl) (by kernel_rfl) (fun _ _ _ h => h) (Or.inl ⟨by rfl, ?hy2004⟩) hHeld ?_
  case hy2004 => (intro w hSw; (try dsimp only at hSw); go_simp; (try with_reducible rfl))
  (try simp only [Act.put, List.setIfInBounds_toArray, List.set_cons_zero, List.set_cons_succ])
  refine wpAnyH_ready (rs := [7]) (by kernel_rfl) (by simp) ?_
  refine AllReadyH.cons (o := { dst := some 12, op := Op.alloc 25, type := 0, pos := "law.go:332", after := #[], guard := none }) rfl (fun K hK => ?_) ?_
  have za := hHeld.size; go_simp; (first | refine newZ ?_ | refine newZd ?_); intro wa ha ba; have HA := hid ha; have BA := hid ba; have xa := (Array.getElem?_eq_some_iff.1 ha).1; clear ha ba
  refine hK.out _ _ (by first | exact hHeld.trans (BA.out.mono hHeld.size) | exact BA.out) (fun hHeld => ?_)
  clear hK K
  (try simp only [List.setIfInBounds_toArray, List.set_cons_zero, List.set_cons_succ])
  refine wpAnyH_ready (rs := [8]) (by kernel_rfl) (by simp) ?_
  refine AllReadyH.cons (o := { dst := none, op := Op.store 25 (Operand.tmp 12) (Operand.tmp 46), type := 0, pos := "law.go:332", after := #[{ on := 7, ground := Ground.data }, { on := 6, ground := Ground.data }, { on := 4, ground := Ground.chain }, { on := 0, ground := Ground.phase }, { on := 1, ground := Ground.phase }, { on := 2, ground := Ground.phase }, { on := 3, ground := Ground.phase }, { on := 4, ground := Ground.phase }, { on := 5, ground := Ground.phase }, { on := 6, ground := Ground.phase }, { on := 7, ground := Ground.phase }], guard := none }) rfl (fun K hK => ?_) ?_
  rw [if_pos (by rfl)]; refine wp_store_row _ _ _ rfl _ _ rfl rfl _ _ (by (repeat (first | exact HI.out | exact HO.out | exact HA.out | refine heap_keep ?_ BM.out | refine heap_keep ?_ BO.out | refine heap_keep ?_ BA.out | refine heap_keep ?_ BI.out))) (hTa.out _ _) (by rfl) (hT1.out _ _ _ _ _ _) ?_
  refine hK.out _ _ (below_setRow hHeld (by omega) _) (fun hHeld => ?_)
  clear hK K
  (try simp only [List.setIfInBounds_toArray, List.set_cons_zero, List.set_cons_succ])
  refine wpAnyH_done (by kernel_rfl) ?_ _
  rotate_left
  exact AllReadyH.nil
  exact AllReadyH.nil
  refine AllReadyH.cons (o := { dst := some 12, op := Op.alloc 25, type := 0, pos := "law.go:332", after := #[], guard := none }) rfl (fun K hK => ?_) ?_
  have za := hHeld.size; go_simp; (first | refine newZ ?_ | refine newZd ?_); intro wa ha ba; have HA := hid ha; have BA := hid ba; have xa := (Array.getElem?_eq_some_iff.1 ha).1; clear ha ba
  refine hK.out _ _ (by first | exact hHeld.trans (BA.out.mono hHeld.size) | exact BA.out) (fun hHeld => ?_)
  clear hK K
  (try simp only [List.setIfInBounds_toArray, List.set_cons_zero, List.set_cons_succ])
  refine wpAnyH_ready (rs := [5]) (by kernel_rfl) (by simp) ?_
  refine AllReadyH.cons (o := { dst := some 45, op := Op.buildSlice 23 1 #[(0, Operand.tmp 44)], type := 23, pos := "law.go:332", after := #[{ on := 4, ground := Ground.data }], guard := none }) rfl (fun K hK => ?_) ?_
  have zo := hHeld.size; rw [if_pos (by rfl)]; refine wp_lit1 _ _ _ rfl rfl Tryd.underlying23 hOi.out hOz.out (hOl.out _) (by decide) (by decide) ?_; (first | refine newZ ?_ | refine newZd ?_); intro wo ho bo; obtain ⟨o2, ho2⟩ := named ho; have HO := hid ho; have BO := hid bo; have xo := (Array.getElem?_eq_some_iff.1 ho).1; clear ho bo
  refine hK.out _ _ (by first | exact hHeld.trans (BO.out.mono hHeld.size) | exact BO.out) (fun hHeld => ?_)
  clear hK K
  (try simp only [List.setIfInBounds_toArray, List.set_cons_zero, List.set_cons_succ])
  refine wpAnyH_take (i := 6) (oi := { dst := some 46, op := Op.build 25 #[(0, Operand.tmp 42), (1, Operand.tmp 45)], type := 25, pos := "law.go:332", after := #[{ on := 2, ground := Ground.data }, { on := 5, ground := Ground.data }], guard := none }) (v := ?v2005) rfl (by kernel_rfl) (by kernel_rfl) (by kernel_rfl) (fun _ _ _ h => h) (Or.inl ⟨by rfl, ?hy2005⟩) hHeld ?_
  case hy2005 => (intro w hSw; (try dsimp only at hSw); go_simp; (try with_reducible rfl))
  (try simp only [Act.put, List.setIfInBounds_toArray, List.set_cons_zero, List.set_cons_succ])
  refine wpAnyH_ready (rs := [8]) (by kernel_rfl) (by simp) ?_
  refine AllReadyH.cons (o := { dst := none, op := Op.store 25 (Operand.tmp 12) (Operand.tmp 46), type := 0, pos := "law.go:332", after := #[{ on := 7, ground := Ground.data }, { on := 6, ground := Ground.data }, { on := 4, ground := Ground.chain }, { on := 0, ground := Ground.phase }, { on := 1, ground := Ground.phase }, { on := 2, ground := Ground.phase }, { on := 3, ground := Ground.phase }, { on := 4, ground := Ground.phase }, { on := 5, ground := Ground.phase }, { on := 6, ground := Ground.phase }, { on := 7, ground := Ground.phase }], guard := none }) rfl (fun K hK => ?_) ?_
  rw [if_pos (by rfl)]; refine wp_store_row _ _ _ rfl _ _ rfl rfl _ _ (by (repeat (first | exact HI.out | exact HO.out | exact HA.out | refine heap_keep ?_ BM.out | refine heap_keep ?_ BO.out | refine heap_keep ?_ BA.out | refine heap_keep ?_ BI.out))) (hTa.out _ _) (by rfl) (hT1.out _ _ _ _ _ _) ?_
  refine hK.out _ _ (below_setRow hHeld (by omega) _) (fun hHeld => ?_)
  clear hK K
  (try simp only [List.setIfInBounds_toArray, List.set_cons_zero, List.set_cons_succ])
  refine wpAnyH_done (by kernel_rfl) ?_ _
  rotate_left
  exact AllReadyH.nil
  exact AllReadyH.nil
  exact AllReadyH.nil
  refine AllReadyH.cons (o := { dst := some 45, op := Op.buildSlice 23 1 #[(0, Operand.tmp 44)], type := 23, pos := "law.go:332", after := #[{ on := 4, ground := Ground.data }], guard := none }) rfl (fun K hK => ?_) ?_
  have zo := hHeld.size; rw [if_pos (by rfl)]; refine wp_lit1 _ _ _ rfl rfl Tryd.underlying23 hOi.out hOz.out (hOl.out _) (by decide) (by decide) ?_; (first | refine newZ ?_ | refine newZd ?_); intro wo ho bo; obtain ⟨o2, ho2⟩ := named ho; have HO := hid ho; have BO := hid bo; have xo := (Array.getElem?_eq_some_iff.1 ho).1; clear ho bo
  refine hK.out _ _ (by first | exact hHeld.trans (BO.out.mono hHeld.size) | exact BO.out) (fun hHeld => ?_)
  clear hK K
  (try simp only [List.setIfInBounds_toArray, List.set_cons_zero, List.set_cons_succ])
  refine wpAnyH_ready (rs := [2, 7]) (by kernel_rfl) (by simp) ?_
  refine AllReadyH.cons (o := { dst := some 42, op := Op.buildSlice 22 1 #[(0, Operand.tmp 41)], type := 22, pos := "law.go:332", after := #[{ on := 1, ground := Ground.data }], guard := none }) rfl (fun K hK => ?_) ?_
  have zi := hHeld.size; rw [if_pos (by rfl)]; refine wp_lit1 _ _ _ rfl rfl Tryd.underlying22 hIi.out hIz.out hIl.out (by decide) (by decide) ?_; (first | refine newZ ?_ | refine newZd ?_); intro wi hi bi; obtain ⟨ib, hib⟩ := named hi; have HI := hid hi; have BI := hid bi; have xi := (Array.getElem?_eq_some_iff.1 hi).1; clear hi bi
  refine hK.out _ _ (by first | exact hHeld.trans (BI.out.mono hHeld.size) | exact BI.out) (fun hHeld => ?_)
  clear hK K
  (try simp only [List.setIfInBounds_toArray, List.set_cons_zero, List.set_cons_succ])
  refine wpAnyH_take (i := 6) (oi := { dst := some 46, op := Op.build 25 #[(0, Operand.tmp 42), (1, Operand.tmp 45)], type := 25, pos := "law.go:332", after := #[{ on := 2, ground := Ground.data }, { on := 5, ground := Ground.data }], guard := none }) (v := ?v2006) rfl (by kernel_rfl) (by kernel_rfl) (by kernel_rfl) (fun _ _ _ h => h) (Or.inl ⟨by rfl, ?hy2006⟩) hHeld ?_
  case hy2006 => (intro w hSw; (try dsimp only at hSw); go_simp; (try with_reducible rfl))
  (try simp only [Act.put, List.setIfInBounds_toArray, List.set_cons_zero, List.set_cons_succ])
  refine wpAnyH_ready (rs := [7]) (by kernel_rfl) (by simp) ?_
  refine AllReadyH.cons (o := { dst := some 12, op := Op.alloc 25, type := 0, pos := "law.go:332", after := #[], guard := none }) rfl (fun K hK => ?_) ?_
  have za := hHeld.size; go_simp; (first | refine newZ ?_ | refine newZd ?_); intro wa ha ba; have HA := hid ha; have BA := hid ba; have xa := (Array.getElem?_eq_some_iff.1 ha).1; clear ha ba
  refine hK.out _ _ (by first | exact hHeld.trans (BA.out.mono hHeld.size) | exact BA.out) (fun hHeld => ?_)
  clear hK K
  (try simp only [List.setIfInBounds_toArray, List.set_cons_zero, List.set_cons_succ])
  refine wpAnyH_ready (rs := [8]) (by kernel_rfl) (by simp) ?_
  refine AllReadyH.cons (o := { dst := none, op := Op.store 25 (Operand.tmp 12) (Operand.tmp 46), type := 0, pos := "law.go:332", after := #[{ on := 7, ground := Ground.data }, { on := 6, ground := Ground.data }, { on := 4, ground := Ground.chain }, { on := 0, ground := Ground.phase }, { on := 1, ground := Ground.phase }, { on := 2, ground := Ground.phase }, { on := 3, ground := Ground.phase }, { on := 4, ground := Ground.phase }, { on := 5, ground := Ground.phase }, { on := 6, ground := Ground.phase }, { on := 7, ground := Ground.phase }], guard := none }) rfl (fun K hK => ?_) ?_
  rw [if_pos (by rfl)]; refine wp_store_row _ _ _ rfl _ _ rfl rfl _ _ (by (repeat (first | exact HI.out | exact HO.out | exact HA.out | refine heap_keep ?_ BM.out | refine heap_keep ?_ BO.out | refine heap_keep ?_ BA.out | refine heap_keep ?_ BI.out))) (hTa.out _ _) (by rfl) (hT1.out _ _ _ _ _ _) ?_
  refine hK.out _ _ (below_setRow hHeld (by omega) _) (fun hHeld => ?_)
  clear hK K
  (try simp only [List.setIfInBounds_toArray, List.set_cons_zero, List.set_cons_succ])
  refine wpAnyH_done (by kernel_rfl) ?_ _
  rotate_left
  exact AllReadyH.nil
  exact AllReadyH.nil
  refine AllReadyH.cons (o := { dst := some 12, op := Op.alloc 25, type := 0, pos := "law.go:332", after := #[], guard := none }) rfl (fun K hK => ?_) ?_
  have za := hHeld.size; go_simp; (first | refine newZ ?_ | refine newZd ?_); intro wa ha ba; have HA := hid ha; have BA := hid ba; have xa := (Array.getElem?_eq_some_iff.1 ha).1; clear ha ba
  refine hK.out _ _ (by first | exact hHeld.trans (BA.out.mono hHeld.size) | exact BA.out) (fun hHeld => ?_)
  clear hK K
  (try simp only [List.setIfInBounds_toArray, List.set_cons_zero, List.set_cons_succ])
  refine wpAnyH_ready (rs := [2]) (by kernel_rfl) (by simp) ?_
  refine AllReadyH.cons (o := { dst := some 42, op := Op.buildSlice 22 1 #[(0, Operand.tmp 41)], type := 22, pos := "law.go:332", after := #[{ on := 1, ground := Ground.data }], guard := none }) rfl (fun K hK => ?_) ?_
  have zi := hHeld.size; rw [if_pos (by rfl)]; refine wp_lit1 _ _ _ rfl rfl Tryd.underlying22 hIi.out hIz.out hIl.out (by decide) (by decide) ?_; (first | refine newZ ?_ | refine newZd ?_); intro wi hi bi; obtain ⟨ib, hib⟩ := named hi; have HI := hid hi; have BI := hid bi; have xi := (Array.getElem?_eq_some_iff.1 hi).1; clear hi bi
  refine hK.out _ _ (by first | exact hHeld.trans (BI.out.mono hHeld.size) | exact BI.out) (fun hHeld => ?_)
  clear hK K
  (try simp only [List.setIfInBounds_toArray, List.set_cons_zero, List.set_cons_succ])
  refine wpAnyH_take (i := 6) (oi := { dst := some 46, op := Op.build 25 #[(0, Operand.tmp 42), (1, Operand.tmp 45)], type := 25, pos := "law.go:332", after := #[{ on := 2, ground := Ground.data }, { on := 5, ground := Ground.data }], guard := none }) (v := ?v2007) rfl (by kernel_rfl) (by kernel_rfl) (by kernel_rfl) (fun _ _ _ h => h) (Or.inl ⟨by rfl, ?hy2007⟩) hHeld ?_
  case hy2007 => (intro w hSw; (try dsimp only at hSw); go_simp; (try with_reducible rfl))
  (try simp only [Act.put, List.setIfInBounds_toArray, List.set_cons_zero, List.set_cons_succ])
  refine wpAnyH_ready (rs := [8]) (by kernel_rfl) (by simp) ?_
  refine AllReadyH.cons (o := { dst := none, op := Op.store 25 (Operand.tmp 12) (Operand.tmp 46), type := 0, pos := "law.go:332", after := #[{ on := 7, ground := Ground.data }, { on := 6, ground := Ground.data }, { on := 4, ground := Ground.chain }, { on := 0, ground := Ground.phase }, { on := 1, ground := Ground.phase }, { on := 2, ground := Ground.phase }, { on := 3, ground := Ground.phase }, { on := 4, ground := Ground.phase }, { on := 5, ground := Ground.phase }, { on := 6, ground := Ground.phase }, { on := 7, ground := Ground.phase }], guard := none }) rfl (fun K hK => ?_) ?_
  rw [if_pos (by rfl)]; refine wp_store_row _ _ _ rfl _ _ rfl rfl _ _ (by (repeat (first | exact HI.out | exact HO.out | exact HA.out | refine heap_keep ?_ BM.out | refine heap_keep ?_ BO.out | refine heap_keep ?_ BA.out | refine heap_keep ?_ BI.out))) (hTa.out _ _) (by rfl) (hT1.out _ _ _ _ _ _) ?_
  refine hK.out _ _ (below_setRow hHeld (by omega) _) (fun hHeld => ?_)
  clear hK K
  (try simp only [List.setIfInBounds_toArray, List.set_cons_zero, List.set_cons_succ])
  refine wpAnyH_done (by kernel_rfl) ?_ _
  rotate_left
  exact AllReadyH.nil
  exact AllReadyH.nil
  exact AllReadyH.nil
  refine AllReadyH.cons (o := { dst := some 12, op := Op.alloc 25, type := 0, pos := "law.go:332", after := #[], guard := none }) rfl (fun K hK => ?_) ?_
  have za := hHeld.size; go_simp; (first | refine newZ ?_ | refine newZd ?_); intro wa ha ba; have HA := hid ha; have BA := hid ba; have xa := (Array.getElem?_eq_some_iff.1 ha).1; clear ha ba
  refine hK.out _ _ (by first | exact hHeld.trans (BA.out.mono hHeld.size) | exact BA.out) (fun hHeld => ?_)
  clear hK K
  (try simp only [List.setIfInBounds_toArray, List.set_cons_zero, List.set_cons_succ])
  refine wpAnyH_ready (rs := [2, 5]) (by kernel_rfl) (by simp) ?_
  refine AllReadyH.cons (o := { dst := some 42, op := Op.buildSlice 22 1 #[(0, Operand.tmp 41)], type := 22, pos := "law.go:332", after := #[{ on := 1, ground := Ground.data }], guard := none }) rfl (fun K hK => ?_) ?_
  have zi := hHeld.size; rw [if_pos (by rfl)]; refine wp_lit1 _ _ _ rfl rfl Tryd.underlying22 hIi.out hIz.out hIl.out (by decide) (by decide) ?_; (first | refine newZ ?_ | refine newZd ?_); intro wi hi bi; obtain ⟨ib, hib⟩ := named hi; have HI := hid hi; have BI := hid bi; have xi := (Array.getElem?_eq_some_iff.1 hi).1; clear hi bi
  refine hK.out _ _ (by first | exact hHeld.trans (BI.out.mono hHeld.size) | exact BI.out) (fun hHeld => ?_)
  clear hK K
  (try simp only [List.setIfInBounds_toArray, List.set_cons_zero, List.set_cons_succ])
  refine wpAnyH_ready (rs := [5]) (by kernel_rfl) (by simp) ?_
  refine AllReadyH.cons (o := { dst := some 45, op := Op.buildSlice 23 1 #[(0, Operand.tmp 44)], type := 23, pos := "law.go:332", after := #[{ on := 4, ground := Ground.data }], guard := none }) rfl (fun K hK => ?_) ?_
  have zo := hHeld.size; rw [if_pos (by rfl)]; refine wp_lit1 _ _ _ rfl rfl Tryd.underlying23 hOi.out hOz.out (hOl.out _) (by decide) (by decide) ?_; (first | refine newZ ?_ | refine newZd ?_); intro wo ho bo; obtain ⟨o2, ho2⟩ := named ho; have HO := hid ho; have BO := hid bo; have xo := (Array.getElem?_eq_some_iff.1 ho).1; clear ho bo
  refine hK.out _ _ (by first | exact hHeld.trans (BO.out.mono hHeld.size) | exact BO.out) (fun hHeld => ?_)
  clear hK K
  (try simp only [List.setIfInBounds_toArray, List.set_cons_zero, List.set_cons_succ])
  refine wpAnyH_take (i := 6) (oi := { dst := some 46, op := Op.build 25 #[(0, Operand.tmp 42), (1, Operand.tmp 45)], type := 25, pos := "law.go:332", after := #[{ on := 2, ground := Ground.data }, { on := 5, ground := Ground.data }], guard := none }) (v := ?v2008) rfl (by kernel_rfl) (by kernel_rfl) (by kernel_rfl) (fun _ _ _ h => h) (Or.inl ⟨by rfl, ?hy2008⟩) hHeld ?_
  case hy2008 => (intro w hSw; (try dsimp only at hSw); go_simp; (try with_reducible rfl))
  (try simp only [Act.put, List.setIfInBounds_toArray, List.set_cons_zero, List.set_cons_succ])
  refine wpAnyH_ready (rs := [8]) (by kernel_rfl) (by simp) ?_
  refine AllReadyH.cons (o := { dst := none, op := Op.store 25 (Operand.tmp 12) (Operand.tmp 46), type := 0, pos := "law.go:332", after := #[{ on := 7, ground := Ground.data }, { on := 6, ground := Ground.data }, { on := 4, ground := Ground.chain }, { on := 0, ground := Ground.phase }, { on := 1, ground := Ground.phase }, { on := 2, ground := Ground.phase }, { on := 3, ground := Ground.phase }, { on := 4, ground := Ground.phase }, { on := 5, ground := Ground.phase }, { on := 6, ground := Ground.phase }, { on := 7, ground := Ground.phase }], guard := none }) rfl (fun K hK => ?_) ?_
  rw [if_pos (by rfl)]; refine wp_store_row _ _ _ rfl _ _ rfl rfl _ _ (by (repeat (first | exact HI.out | exact HO.out | exact HA.out | refine heap_keep ?_ BM.out | refine heap_keep ?_ BO.out | refine heap_keep ?_ BA.out | refine heap_keep ?_ BI.out))) (hTa.out _ _) (by rfl) (hT1.out _ _ _ _ _ _) ?_
  refine hK.out _ _ (below_setRow hHeld (by omega) _) (fun hHeld => ?_)
  clear hK K
  (try simp only [List.setIfInBounds_toArray, List.set_cons_zero, List.set_cons_succ])
  refine wpAnyH_done (by kernel_rfl) ?_ _
  rotate_left
  exact AllReadyH.nil
  exact AllReadyH.nil
  refine AllReadyH.cons (o := { dst := some 45, op := Op.buildSlice 23 1 #[(0, Operand.tmp 44)], type := 23, pos := "law.go:332", after := #[{ on := 4, ground := Ground.data }], guard := none }) rfl (fun K hK => ?_) ?_
  have zo := hHeld.size; rw [if_pos (by rfl)]; refine wp_lit1 _ _ _ rfl rfl Tryd.underlying23 hOi.out hOz.out (hOl.out _) (by decide) (by decide) ?_; (first | refine newZ ?_ | refine newZd ?_); intro wo ho bo; obtain ⟨o2, ho2⟩ := named ho; have HO := hid ho; have BO := hid bo; have xo := (Array.getElem?_eq_some_iff.1 ho).1; clear ho bo
  refine hK.out _ _ (by first | exact hHeld.trans (BO.out.mono hHeld.size) | exact BO.out) (fun hHeld => ?_)
  clear hK K
  (try simp only [List.setIfInBounds_toArray, List.set_cons_zero, List.set_cons_succ])
  refine wpAnyH_ready (rs := [2]) (by kernel_rfl) (by simp) ?_
  refine AllReadyH.cons (o := { dst := some 42, op := Op.buildSlice 22 1 #[(0, Operand.tmp 41)], type := 22, pos := "law.go:332", after := #[{ on := 1, ground := Ground.data }], guard := none }) rfl (fun K hK => ?_) ?_
  have zi := hHeld.size; rw [if_pos (by rfl)]; refine wp_lit1 _ _ _ rfl rfl Tryd.underlying22 hIi.out hIz.out hIl.out (by decide) (by decide) ?_; (first | refine newZ ?_ | refine newZd ?_); intro wi hi bi; obtain ⟨ib, hib⟩ := named hi; have HI := hid hi; have BI := hid bi; have xi := (Array.getElem?_eq_some_iff.1 hi).1; clear hi bi
  refine hK.out _ _ (by first | exact hHeld.trans (BI.out.mono hHeld.size) | exact BI.out) (fun hHeld => ?_)
  clear hK K
  (try simp only [List.setIfInBounds_toArray, List.set_cons_zero, List.set_cons_succ])
  refine wpAnyH_take (i := 6) (oi := { dst := some 46, op := Op.build 25 #[(0, Operand.tmp 42), (1, Operand.tmp 45)], type := 25, pos := "law.go:332", after := #[{ on := 2, ground := Ground.data }, { on := 5, ground := Ground.data }], guard := none }) (v := ?v2009) rfl (by kernel_rfl) (by kernel_rfl) (by kernel_rfl) (fun _ _ _ h => h) (Or.inl ⟨by rfl, ?hy2009⟩) hHeld ?_
  case hy2009 => (intro w hSw; (try dsimp only at hSw); go_simp; (try with_reducible rfl))
  (try simp only [Act.put, List.setIfInBounds_toArray, List.set_cons_zero, List.set_cons_succ])
  refine wpAnyH_ready (rs := [8]) (by kernel_rfl) (by simp) ?_
  refine AllReadyH.cons (o := { dst := none, op := Op.store 25 (Operand.tmp 12) (Operand.tmp 46), type := 0, pos := "law.go:332", after := #[{ on := 7, ground := Ground.data }, { on := 6, ground := Ground.data }, { on := 4, ground := Ground.chain }, { on := 0, ground := Ground.phase }, { on := 1, ground := Ground.phase }, { on := 2, ground := Ground.phase }, { on := 3, ground := Ground.phase }, { on := 4, ground := Ground.phase }, { on := 5, ground := Ground.phase }, { on := 6, ground := Ground.phase }, { on := 7, ground := Ground.phase }], guard := none }) rfl (fun K hK => ?_) ?_
  rw [if_pos (by rfl)]; refine wp_store_row _ _ _ rfl _ _ rfl rfl _ _ (by (repeat (first | exact HI.out | exact HO.out | exact HA.out | refine heap_keep ?_ BM.out | refine heap_keep ?_ BO.out | refine heap_keep ?_ BA.out | refine heap_keep ?_ BI.out))) (hTa.out _ _) (by rfl) (hT1.out _ _ _ _ _ _) ?_
  refine hK.out _ _ (below_setRow hHeld (by omega) _) (fun hHeld => ?_)
  clear hK K
  (try simp only [List.setIfInBounds_toArray, List.set_cons_zero, List.set_cons_succ])
  refine wpAnyH_done (by kernel_rfl) ?_ _
  rotate_left
  exact AllReadyH.nil
  exact AllReadyH.nil
  exact AllReadyH.nil
  exact AllReadyH.nil
  refine AllReadyH.cons (o := { dst := some 12, op := Op.alloc 25, type := 0, pos := "law.go:332", after := #[], guard := none }) rfl (fun K hK => ?_) ?_
  have za := hHeld.size; go_simp; (first | refine newZ ?_ | refine newZd ?_); intro wa ha ba; have HA := hid ha; have BA := hid ba; have xa := (Array.getElem?_eq_some_iff.1 ha).1; clear ha ba
  refine hK.out _ _ (by first | exact hHeld.trans (BA.out.mono hHeld.size) | exact BA.out) (fun hHeld => ?_)
  clear hK K
  (try simp only [List.setIfInBounds_toArray, List.set_cons_zero, List.set_cons_succ])
  refine wpAnyH_ready (rs := [2, 4]) (by kernel_rfl) (by simp) ?_
  refine AllReadyH.cons (o := { dst := some 42, op := Op.buildSlice 22 1 #[(0, Operand.tmp 41)], type := 22, pos := "law.go:332", after := #[{ on := 1, ground := Ground.data }], guard := none }) rfl (fun K hK => ?_) ?_
  have zi := hHeld.size; rw [if_pos (by rfl)]; refine wp_lit1 _ _ _ rfl rfl Tryd.underlying22 hIi.out hIz.out hIl.out (by decide) (by decide) ?_; (first | refine newZ ?_ | refine newZd ?_); intro wi hi bi; obtain ⟨ib, hib⟩ := named hi; have HI := hid hi; have BI := hid bi; have xi := (Array.getElem?_eq_some_iff.1 hi).1; clear hi bi
  refine hK.out _ _ (by first | exact hHeld.trans (BI.out.mono hHeld.size) | exact BI.out) (fun hHeld => ?_)
  clear hK K
  (try simp only [List.setIfInBounds_toArray, List.set_cons_zero, List.set_cons_succ])
  refine wpAnyH_ready (rs := [4]) (by kernel_rfl) (by simp) ?_
  refine AllReadyH.cons (o := { dst := some 44, op := Op.call { callee := Callee.value (Operand.func 19), args := #[Operand.const (Value.int IntKind.u64 5), Operand.tmp 43], argTypes := #[38, 27] }, type := 41, pos := "law.go:332", after := #[{ on := 3, ground := Ground.data }], guard := none }) rfl (fun K hK => ?_) ?_
  have zm := hHeld.size; go_simp; refine (cmine_walk 5 (by decide) s1 S1.out _ (L5.out.tabs.below hHeld)).mono ?_; rintro e wq ⟨g2, rfl, lg2, gd2, bm⟩; have GD2 := hid gd2; have BM := hid bm; have xm := mineO_lt gd2 OS1.out.1; have ym := bm.size; clear gd2 bm
  refine hK.out _ _ (hHeld.trans (BM.out.mono hHeld.size)) (fun hHeld => ?_)
  clear hK K
  (try simp only [List.setIfInBounds_toArray, List.set_cons_zero, List.set_cons_succ])
  refine wpAnyH_ready (rs := [5]) (by kernel_rfl) (by simp) ?_
  refine AllReadyH.cons (o := { dst := some 45, op := Op.buildSlice 23 1 #[(0, Operand.tmp 44)], type := 23, pos := "law.go:332", after := #[{ on := 4, ground := Ground.data }], guard := none }) rfl (fun K hK => ?_) ?_
  have zo := hHeld.size; rw [if_pos (by rfl)]; refine wp_lit1 _ _ _ rfl rfl Tryd.underlying23 hOi.out hOz.out (hOl.out _) (by decide) (by decide) ?_; (first | refine newZ ?_ | refine newZd ?_); intro wo ho bo; obtain ⟨o2, ho2⟩ := named ho; have HO := hid ho; have BO := hid bo; have xo := (Array.getElem?_eq_some_iff.1 ho).1; clear ho bo
  refine hK.out _ _ (by first | exact hHeld.trans (BO.out.mono hHeld.size) | exact BO.out) (fun hHeld => ?_)
  clear hK K
  (try simp only [List.setIfInBounds_toArray, List.set_cons_zero, List.set_cons_succ])
  refine wpAnyH_take (i := 6) (oi := { dst := some 46, op := Op.build 25 #[(0, Operand.tmp 42), (1, Operand.tmp 45)], type := 25, pos := "law.go:332", after := #[{ on := 2, ground := Ground.data }, { on := 5, ground := Ground.data }], guard := none }) (v := ?v2010) rfl (by kernel_rfl) (by kernel_rfl) (by kernel_rfl) (fun _ _ _ h => h) (Or.inl ⟨by rfl, ?hy2010⟩) hHeld ?_
  case hy2010 => (intro w hSw; (try dsimp only at hSw); go_simp; (try with_reducible rfl))
  (try simp only [Act.put, List.setIfInBounds_toArray, List.set_cons_zero, List.set_cons_succ])
  refine wpAnyH_ready (rs := [8]) (by kernel_rfl) (by simp) ?_
  refine AllReadyH.cons (o := { dst := none, op := Op.store 25 (Operand.tmp 12) (Operand.tmp 46), type := 0, pos := "law.go:332", after := #[{ on := 7, ground := Ground.data }, { on := 6, ground := Ground.data }, { on := 4, ground := Ground.chain }, { on := 0, ground := Ground.phase }, { on := 1, ground := Ground.phase }, { on := 2, ground := Ground.phase }, { on := 3, ground := Ground.phase }, { on := 4, ground := Ground.phase }, { on := 5, ground := Ground.phase }, { on := 6, ground := Ground.phase }, { on := 7, ground := Ground.phase }], guard := none }) rfl (fun K hK => ?_) ?_
  rw [if_pos (by rfl)]; refine wp_store_row _ _ _ rfl _ _ rfl rfl _ _ (by (repeat (first | exact HI.out | exact HO.out | exact HA.out | refine heap_keep ?_ BM.out | refine heap_keep ?_ BO.out | refine heap_keep ?_ BA.out | refine heap_keep ?_ BI.out))) (hTa.out _ _) (by rfl) (hT1.out _ _ _ _ _ _) ?_
  refine hK.out _ _ (below_setRow hHeld (by omega) _) (fun hHeld => ?_)
  clear hK K
  (try simp only [List.setIfInBounds_toArray, List.set_cons_zero, List.set_cons_succ])
  refine wpAnyH_done (by kernel_rfl) ?_ _
  rotate_left
  exact AllReadyH.nil
  exact AllReadyH.nil
  exact AllReadyH.nil
  refine AllReadyH.cons (o := { dst := some 44, op := Op.call { callee := Callee.value (Operand.func 19), args := #[Operand.const (Value.int IntKind.u64 5), Operand.tmp 43], argTypes := #[38, 27] }, type := 41, pos := "law.go:332", after := #[{ on := 3, ground := Ground.data }], guard := none }) rfl (fun K hK => ?_) ?_
  have zm := hHeld.size; go_simp; refine (cmine_walk 5 (by decide) s1 S1.out _ (L5.out.tabs.below hHeld)).mono ?_; rintro e wq ⟨g2, rfl, lg2, gd2, bm⟩; have GD2 := hid gd2; have BM := hid bm; have xm := mineO_lt gd2 OS1.out.1; have ym := bm.size; clear gd2 bm
  refine hK.out _ _ (hHeld.trans (BM.out.mono hHeld.size)) (fun hHeld => ?_)
  clear hK K
  (try simp only [List.setIfInBounds_toArray, List.set_cons_zero, List.set_cons_succ])
  refine wpAnyH_ready (rs := [2, 5]) (by kernel_rfl) (by simp) ?_
  refine AllReadyH.cons (o := { dst := some 42, op := Op.buildSlice 22 1 #[(0, Operand.tmp 41)], type := 22, pos := "law.go:332", after := #[{ on := 1, ground := Ground.data }], guard := none }) rfl (fun K hK => ?_) ?_
  have zi := hHeld.size; rw [if_pos (by rfl)]; refine wp_lit1 _ _ _ rfl rfl Tryd.underlying22 hIi.out hIz.out hIl.out (by decide) (by decide) ?_; (first | refine newZ ?_ | refine newZd ?_); intro wi hi bi; obtain ⟨ib, hib⟩ := named hi; have HI := hid hi; have BI := hid bi; have xi := (Array.getElem?_eq_some_iff.1 hi).1; clear hi bi
  refine hK.out _ _ (by first | exact hHeld.trans (BI.out.mono hHeld.size) | exact BI.out) (fun hHeld => ?_)
  clear hK K
  (try simp only [List.setIfInBounds_toArray, List.set_cons_zero, List.set_cons_succ])
  refine wpAnyH_ready (rs := [5]) (by kernel_rfl) (by simp) ?_
  refine AllReadyH.cons (o := { dst := some 45, op := Op.buildSlice 23 1 #[(0, Operand.tmp 44)], type := 23, pos := "law.go:332", after := #[{ on := 4, ground := Ground.data }], guard := none }) rfl (fun K hK => ?_) ?_
  have zo := hHeld.size; rw [if_pos (by rfl)]; refine wp_lit1 _ _ _ rfl rfl Tryd.underlying23 hOi.out hOz.out (hOl.out _) (by decide) (by decide) ?_; (first | refine newZ ?_ | refine newZd ?_); intro wo ho bo; obtain ⟨o2, ho2⟩ := named ho; have HO := hid ho; have BO := hid bo; have xo := (Array.getElem?_eq_some_iff.1 ho).1; clear ho bo
  refine hK.out _ _ (by first | exact hHeld.trans (BO.out.mono hHeld.size) | exact BO.out) (fun hHeld => ?_)
  clear hK K
  (try simp only [List.setIfInBounds_toArray, List.set_cons_zero, List.set_cons_succ])
  refine wpAnyH_take (i := 6) (oi := { dst := some 46, op := Op.build 25 #[(0, Operand.tmp 42), (1, Operand.tmp 45)], type := 25, pos := "law.go:332", after := #[{ on := 2, ground := Ground.data }, { on := 5, ground := Ground.data }], guard := none }) (v := ?v2011) rfl (by kernel_rfl) (by kernel_rfl) (by kernel_rfl) (fun _ _ _ h => h) (Or.inl ⟨by rfl, ?hy2011⟩) hHeld ?_
  case hy2011 => (intro w hSw; (try dsimp only at hSw); go_simp; (try with_reducible rfl))
  (try simp only [Act.put, List.setIfInBounds_toArray, List.set_cons_zero, List.set_cons_succ])
  refine wpAnyH_ready (rs := [8]) (by kernel_rfl) (by simp) ?_
  refine AllReadyH.cons (o := { dst := none, op := Op.store 25 (Operand.tmp 12) (Operand.tmp 46), type := 0, pos := "law.go:332", after := #[{ on := 7, ground := Ground.data }, { on := 6, ground := Ground.data }, { on := 4, ground := Ground.chain }, { on := 0, ground := Ground.phase }, { on := 1, ground := Ground.phase }, { on := 2, ground := Ground.phase }, { on := 3, ground := Ground.phase }, { on := 4, ground := Ground.phase }, { on := 5, ground := Ground.phase }, { on := 6, ground := Ground.phase }, { on := 7, ground := Ground.phase }], guard := none }) rfl (fun K hK => ?_) ?_
  rw [if_pos (by rfl)]; refine wp_store_row _ _ _ rfl _ _ rfl rfl _ _ (by (repeat (first | exact HI.out | exact HO.out | exact HA.out | refine heap_keep ?_ BM.out | refine heap_keep ?_ BO.out | refine heap_keep ?_ BA.out | refine heap_keep ?_ BI.out))) (hTa.out _ _) (by rfl) (hT1.out _ _ _ _ _ _) ?_
  refine hK.out _ _ (below_setRow hHeld (by omega) _) (fun hHeld => ?_)
  clear hK K
  (try simp only [List.setIfInBounds_toArray, List.set_cons_zero, List.set_cons_succ])
  refine wpAnyH_done (by kernel_rfl) ?_ _
  rotate_left
  exact AllReadyH.nil
  exact AllReadyH.nil
  refine AllReadyH.cons (o := { dst := some 45, op := Op.buildSlice 23 1 #[(0, Operand.tmp 44)], type := 23, pos := "law.go:332", after := #[{ on := 4, ground := Ground.data }], guard := none }) rfl (fun K hK => ?_) ?_
  have zo := hHeld.size; rw [if_pos (by rfl)]; refine wp_lit1 _ _ _ rfl rfl Tryd.underlying23 hOi.out hOz.out (hOl.out _) (by decide) (by decide) ?_; (first | refine newZ ?_ | refine newZd ?_); intro wo ho bo; obtain ⟨o2, ho2⟩ := named ho; have HO := hid ho; have BO := hid bo; have xo := (Array.getElem?_eq_some_iff.1 ho).1; clear ho bo
  refine hK.out _ _ (by first | exact hHeld.trans (BO.out.mono hHeld.size) | exact BO.out) (fun hHeld => ?_)
  clear hK K
  (try simp only [List.setIfInBounds_toArray, List.set_cons_zero, List.set_cons_succ])
  refine wpAnyH_ready (rs := [2]) (by kernel_rfl) (by simp) ?_
  refine AllReadyH.cons (o := { dst := some 42, op := Op.buildSlice 22 1 #[(0, Operand.tmp 41)], type := 22, pos := "law.go:332", after := #[{ on := 1, ground := Ground.data }], guard := none }) rfl (fun K hK => ?_) ?_
  have zi := hHeld.size; rw [if_pos (by rfl)]; refine wp_lit1 _ _ _ rfl rfl Tryd.underlying22 hIi.out hIz.out hIl.out (by decide) (by decide) ?_; (first | refine newZ ?_ | refine newZd ?_); intro wi hi bi; obtain ⟨ib, hib⟩ := named hi; have HI := hid hi; have BI := hid bi; have xi := (Array.getElem?_eq_some_iff.1 hi).1; clear hi bi
  refine hK.out _ _ (by first | exact hHeld.trans (BI.out.mono hHeld.size) | exact BI.out) (fun hHeld => ?_)
  clear hK K
  (try simp only [List.setIfInBounds_toArray, List.set_cons_zero, List.set_cons_succ])
  refine wpAnyH_take (i := 6) (oi := { dst := some 46, op := Op.build 25 #[(0, Operand.tmp 42), (1, Operand.tmp 45)], type := 25, pos := "law.go:332", after := #[{ on := 2, ground := Ground.data }, { on := 5, ground := Ground.data }], guard := none }) (v := ?v2012) rfl (by kernel_rfl) (by kernel_rfl) (by kernel_rfl) (fun _ _ _ h => h) (Or.inl ⟨by rfl, ?hy2012⟩) hHeld ?_
  case hy2012 => (intro w hSw; (try dsimp only at hSw); go_simp; (try with_reducible rfl))
  (try simp only [Act.put, List.setIfInBounds_toArray, List.set_cons_zero, List.set_cons_succ])
  refine wpAnyH_ready (rs := [8]) (by kernel_rfl) (by simp) ?_
  refine AllReadyH.cons (o := { dst := none, op := Op.store 25 (Operand.tmp 12) (Operand.tmp 46), type := 0, pos := "law.go:332", after := #[{ on := 7, ground := Ground.data }, { on := 6, ground := Ground.data }, { on := 4, ground := Ground.chain }, { on := 0, ground := Ground.phase }, { on := 1, ground := Ground.phase }, { on := 2, ground := Ground.phase }, { on := 3, ground := Ground.phase }, { on := 4, ground := Ground.phase }, { on := 5, ground := Ground.phase }, { on := 6, ground := Ground.phase }, { on := 7, ground := Ground.phase }], guard := none }) rfl (fun K hK => ?_) ?_
  rw [if_pos (by rfl)]; refine wp_store_row _ _ _ rfl _ _ rfl rfl _ _ (by (repeat (first | exact HI.out | exact HO.out | exact HA.out | refine heap_keep ?_ BM.out | refine heap_keep ?_ BO.out | refine heap_keep ?_ BA.out | refine heap_keep ?_ BI.out))) (hTa.out _ _) (by rfl) (hT1.out _ _ _ _ _ _) ?_
  refine hK.out _ _ (below_setRow hHeld (by omega) _) (fun hHeld => ?_)
  clear hK K
  (try simp only [List.setIfInBounds_toArray, List.set_cons_zero, List.set_cons_succ])
  refine wpAnyH_done (by kernel_rfl) ?_ _
  rotate_left
  exact AllReadyH.nil
  exact AllReadyH.nil
  exact AllReadyH.nil
  exact AllReadyH.nil
  exact AllReadyH.nil
  all_goals
    have dr : w5.drew.heap.size = w5.heap.size := rfl
    refine MID.out ib g2 o2 _ _ _ _ _ _ _ _ _ (by omega) (by omega) (by omega) (by omega) (by omega) (by omega) (by omega) ⟨?_, ?_, ?_, ?_⟩ hHeld
    · rw [setRow_other _ _ _ _ (by omega), hib]
      (repeat (first | exact HI.out | exact HO.out | exact HA.out | refine heap_keep ?_ BM.out | refine heap_keep ?_ BO.out | refine heap_keep ?_ BA.out | refine heap_keep ?_ BI.out))
    · rw [setRow_other _ _ _ _ (by omega), ho2]
      (repeat (first | exact HI.out | exact HO.out | exact HA.out | refine heap_keep ?_ BM.out | refine heap_keep ?_ BO.out | refine heap_keep ?_ BA.out | refine heap_keep ?_ BI.out))
    · rw [hib, ho2]
      exact setRow_heap _ _ _ _ _ _ (by (repeat (first | exact HI.out | exact HO.out | exact HA.out | refine heap_keep ?_ BM.out | refine heap_keep ?_ BO.out | refine heap_keep ?_ BA.out | refine heap_keep ?_ BI.out)))
    · refine OutD.good.keepN' (S := fun i => i = _) ?_ (Keep.far' (far_row _ _ _)) (fun ad ha => by cases ha; show g2 ≠ _; omega)
      (repeat (first | exact GD2.out | refine OutD.good.below ?_ BM.out | refine OutD.good.below ?_ BO.out | refine OutD.good.below ?_ BA.out | refine OutD.good.below ?_ BI.out))
end Go.Proofs.YtdopbhahcpjjgaaDoor

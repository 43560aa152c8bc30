/- What was never allowed is never confirmed (the statement ChainNever). -/
import Derived.Test.YtdopbhahcpjjgaaDoorLid
namespace Go.Proofs.YtdopbhahcpjjgaaDoor
open Go.RowKit

theorem and31i (n : Int) : bits .and .i64 n 31 = n % 32 := by
  have h127 : (BitVec.ofInt 64 31).toNat = 2 ^ 5 - 1 := by decide
  have key : (BitVec.ofInt 64 n &&& BitVec.ofInt 64 31).toNat = (n % ((2 ^ 64 : Nat) : Int)).toNat % 2 ^ 5 := by
    rw [BitVec.toNat_and, BitVec.toNat_ofInt, h127, Nat.and_two_pow_sub_one_eq_mod]
  show IntKind.i64.wrap ((BitVec.ofInt 64 n &&& BitVec.ofInt 64 31).toNat : Nat) = n % 32
  rw [key, IntKind.wrap_i64]
  omega
theorem in_at {i : InD} (hi : i.ok) {g : List Nat} (hg : g.length = 32) {R : List Value} : putL (i.cells ++ R) 0 (ptI g 0) = ({ i with tx := g, out := 0 } : InD).cells ++ R := by
  unfold InD.cells ptI
  dsimp only
  have e : nums .u8 i.tx ++ (Value.int .i64 i.out :: Value.int .i64 i.path :: (nums .u8 i.token ++ (nums .u8 i.more ++ nums .u8 i.secret))) ++ R = [] ++ ((nums .u8 i.tx ++ [Value.int .i64 i.out]) ++ (Value.int .i64 i.path :: (nums .u8 i.token ++ (nums .u8 i.more ++ nums .u8 i.secret)) ++ R)) := by simp
  rw [e]
  have := putL_mid (nums .u8 g ++ [Value.int .i64 0]) [] (nums .u8 i.tx ++ [Value.int .i64 i.out]) (Value.int .i64 i.path :: (nums .u8 i.token ++ (nums .u8 i.more ++ nums .u8 i.secret)) ++ R) (by simp [hi.tx.1, hg])
  rw [show (List.length ([] : List Value)) = 0 from rfl] at this
  rw [this]
  simp
set_option maxRecDepth 100000 in
set_option maxHeartbeats 16000000 in
theorem cgive_bad (cb : Nat) (o : OutD) (w : World) (ho : o.good w) (hz : o.code ≠ 0) :
    Calls Tryd.prog 13 #[.pointer (some ⟨cb, 0, none⟩), .agg o.cells.toArray] w fun e w' => e = .returned (.tuple #[.agg (ptI zh 0).toArray, .int .i64 (o.code : Int)]) ∧ Below w.heap.size w w' := by
  have G := hid ho
  obtain ⟨oc, hoc⟩ : ∃ oc, oc = o.cells := ⟨_, rfl⟩
  have OL := hid (show oc.length = 34 by rw [hoc]; exact OutD.len ho)
  obtain ⟨zz, hzz⟩ : ∃ zz : List Value, zz = ptI zh 0 := ⟨_, rfl⟩
  have HZZ := hid hzz
  have ZH : ∀ w : World, (zeroValue 31).run Tryd.prog w = .ok (.agg zz.toArray) w := by rw [hzz]; exact zv_of (by kernel_rfl)
  have lz := hid (show zz.length = 33 by rw [hzz]; rfl)
  have A2 := alloc2p w (.cells oc.toArray 41) (.cells zz.toArray 31)
  have HA := hid A2.1
  have HR := hid A2.2.1
  have B1 := hid A2.2.2.2
  have CK := fun (wx : World) (bx : Below w.heap.size w wx) => hid (show Calls Tryd.prog 23 #[.agg oc.toArray] wx _ from by rw [hoc]; exact ocheck_walk o wx (G.out.below bx))
  have hiO := hid (show (Tryd.prog.info? 41).map (·.size) = some oc.length by rw [OL.out]; kernel_rfl)
  have hiZ := hid (show (Tryd.prog.info? 31).map (·.size) = some zz.toArray.size by rw [List.size_toArray, lz.out]; kernel_rfl)
  have hz1 := hid (show (zz.toArray.all fun x => x.oneCell') = true by rw [hzz]; exact all_oneCell_toArray (by decide))
  have v1 : ((o.code : Int) != 0) = true := by rw [bne_iff_ne]; omega
  have BP := hid (show Tryd.prog.built 31 [] = some zz.toArray from by rw [hzz]; kernel_rfl)
  rw [← hoc]
  clear ho hz hoc hzz A2
  go_enter Tryd.func13, Tryd.ntmps13
  go_upto_region 3 with (fail)
  generalize (w.alloc (.cells oc.toArray 41)).alloc (.cells zz.toArray 31) = w1 at *
  have rO := row_range HA.out
  go_wp2_with (with_reducible refine wpList_load_mid rfl _ _ rfl w.heap.size 0 rfl oc _ rO Tryd.underlying41 rfl hiO.out ?_)
  refine (CK w1 B1.out).out.mono ?_
  rintro e w2 ⟨rfl, b2⟩
  have B2 := hid (show Below w.heap.size w w2 from B1.out.trans (b2.mono B1.out.size))
  have HR2 := hid (heap_keep HR.out b2)
  clear b2 rO
  go_upto_region 5 with (fail)
  go_wp2_with (first | with_reducible refine wpList_build0 rfl _ rfl BP.out ?_ | refine wpList_store_row rfl _ _ _ rfl (w.heap.size + 1) zz.toArray rfl rfl _ _ HR2.out hiZ.out rfl hz1.out ?_)
  refine bodyPost_ret (results_cell_tmp rfl _ _ (w.heap.size + 1) _ zz.toArray _ _ _ rfl rfl (setRow_heap _ _ _ _ _ _ HR2.out) Tryd.underlying31 rfl hiZ.out) rfl ?_
  exact ⟨by rw [HZZ.out]; rfl, below_setRow B2.out (by omega) _⟩
theorem Led.keepLow {S : Nat → Prop} {w w' : World} {A B ob mb hm dm wm sm cb c : Nat} {ht gf : Int} {P : Value} {HM : HM'} {SM : SM'} {M : EM} (h : Led w A B ob mb hm dm wm sm cb ht gf P HM SM M c) (k : Keep S w w') (hS : ∀ i, S i → i < A ∧ i ≠ 0 ∧ i ≠ 1) (hg : ∀ p x, HM p = some x → ∀ ad, x.out.pa = some ad → ¬ S ad.block) : Led w' A B ob mb hm dm wm sm cb ht gf P HM SM M c := by
  have o := h.ord
  have q : ∀ i, A ≤ i → ¬ S i := fun i hi hs => by have := hS i hs; omega
  exact ⟨h.ch.keep k (q _ (by omega)), h.held.imp fun _ x => ⟨x.1, x.2.keep k (q _ (by omega))⟩, h.done.imp fun _ x => x.imp fun _ x => ⟨x.1, x.2.keep k (q _ (by omega))⟩, h.whn.imp fun _ x => x.imp fun _ x => ⟨x.1, x.2.keep k (q _ (by omega))⟩, h.spent.imp fun _ x => ⟨x.1, x.2.keep k (q _ (by omega))⟩,
    h.off.imp fun _ x => ⟨x.1, x.2.keep k (q _ (by omega)) (q _ (by omega))⟩, fun p x hx => ⟨⟨(h.hk p x hx).1.coins, (h.hk p x hx).1.anchor, (h.hk p x hx).1.paths.keep k (hg p x hx), (h.hk p x hx).1.ok⟩, (h.hk p x hx).2⟩, h.sk, h.ord, Nat.le_trans h.le k.size, h.hb, h.gb, h.cc,
    h.tabs.keep k (fun hs => (hS _ hs).2.1 rfl) (fun hs => (hS _ hs).2.2 rfl), h.tlt⟩
theorem oPos {o : OutD} (h : o.code = 0) : 0 < o.paths.length := by
  unfold OutD.code at h
  split at h
  · omega
  · omega
theorem out_lt {w : World} {o : OutD} (h : o.good w) (hn : 0 < o.paths.length) : ∀ ad, o.pa = some ad → ad.block < w.heap.size := by
  intro ad ha
  obtain ⟨_, _, _, _, b, off, hb, hc⟩ := h.paths
  have := hb hn
  rw [ha] at this
  obtain rfl := Option.some.inj this
  have hl := pathsOne h
  cases hp : o.paths with
  | nil => rw [hp] at hn; exact absurd hn (by simp)
  | cons p r =>
    have h98 := hl p (by rw [hp]; simp)
    have := hc 0 (p.cells[0]'(by omega)) (by rw [hp, List.flatMap_cons, List.getElem?_append_left (by omega)]; exact List.getElem?_eq_getElem (by omega))
    exact World.block_lt_of_cell? w _ this
set_option maxRecDepth 100000 in
set_option maxHeartbeats 16000000 in
theorem lawNever (t : TxD) (o : OutD) (bl : Int) (w : World) (hg : t.good w) (ho : o.good w) (ht : Tabs w) :
    Calls Tryd.prog 4 #[.agg t.cells.toArray, .agg o.cells.toArray, .int .i64 bl] w (fun e w' => e = .returned (.bool true) ∧ Below w.heap.size w w') := by
  have G := hid hg
  have GO := hid ho
  have HT := hid ht
  obtain ⟨tc, htc⟩ : ∃ tc, tc = t.cells := ⟨_, rfl⟩
  have TL := hid (show tc.length = 2 by rw [htc]; rfl)
  have hiT := hid (show (Tryd.prog.info? 25).map (·.size) = some tc.length by rw [TL.out]; kernel_rfl)
  obtain ⟨oc, hoc⟩ : ∃ oc, oc = o.cells := ⟨_, rfl⟩
  have OL := hid (show oc.length = 34 by rw [hoc]; exact OutD.len ho)
  have hiO := hid (show (Tryd.prog.info? 41).map (·.size) = some oc.length by rw [OL.out]; kernel_rfl)
  have OC0 := hid (show oc[0]? = some (.int .u64 (o.coins : Int)) from by rw [hoc]; rfl)
  have A2 := alloc2p w (.cells tc.toArray 25) (.cells oc.toArray 41)
  have HA := hid A2.1
  have HR := hid A2.2.1
  have B1 := hid A2.2.2.2
  have CBG := fun (wx : World) (bx : Below w.heap.size w wx) => hid (show Calls Tryd.prog 7 #[.agg tc.toArray] wx _ from by rw [htc]; exact cbig_walk t wx (G.out.below bx))
  have CSM := fun (wx : World) => hid (show Calls Tryd.prog 10 #[.agg oc.toArray] wx _ from by rw [hoc]; exact csmall_walk o wx)
  obtain ⟨N, hN⟩ : ∃ N, N = t.ins.length := ⟨_, rfl⟩
  obtain ⟨ia, hia⟩ : ∃ ia, ia = t.ia := ⟨_, rfl⟩
  obtain ⟨ic, hic⟩ : ∃ ic, ic = t.ic := ⟨_, rfl⟩
  have NN := hid hN
  have PI := hid (show Rd w 130 ia N ic (t.ins.flatMap InD.cells) by rw [hia, hic, hN]; exact hg.ins)
  have TCE := hid (show tc = [.slice ia N ic, .slice t.oa t.outs.length t.oc] by rw [htc]; unfold TxD.cells; rw [hia, hic, hN])
  have OCE := hid hoc
  rw [← htc, ← hoc]
  clear hg ho ht htc hoc A2 hN hia hic
  go_enter Tryd.func4, Tryd.ntmps4
  go_upto_region 1 with (fail)
  generalize (w.alloc (.cells tc.toArray 25)).alloc (.cells oc.toArray 41) = w1 at *
  go_wp2_with (fail)
  refine (chead_walk w1 (HT.out.below B1.out)).mono ?_
  rintro e w2 ⟨rfl, b2⟩
  have W1 := hid (show w.heap.size + 1 < w1.heap.size from (Array.getElem?_eq_some_iff.1 HR.out).1)
  have B2 := hid (show Below w.heap.size w w2 from B1.out.trans (b2.mono B1.out.size))
  have HA2 := hid (heap_keep HA.out b2)
  have HR2 := hid (heap_keep HR.out b2)
  have W2 := hid (show w1.heap.size ≤ w2.heap.size from b2.size)
  clear b2
  go_upto_region 3 with (fail)
  have rT := row_range HA2.out
  go_wp2_with (with_reducible refine wpList_load_mid rfl _ _ rfl w.heap.size 0 rfl tc _ rT Tryd.underlying25 rfl hiT.out ?_)
  refine (CBG w2 B2.out).out.mono ?_
  rintro e w3 ⟨rfl, b3⟩
  have B3 := hid (show Below w.heap.size w w3 from B2.out.trans (b3.mono B2.out.size))
  have HA3 := hid (heap_keep HA2.out b3)
  have HR3 := hid (heap_keep HR2.out b3)
  have W3 := hid (show w2.heap.size ≤ w3.heap.size from b3.size)
  have k0 : w3.cell? ⟨w.heap.size, 0, none⟩ = some (.slice ia N ic) := gen_cell (j := 0) (row_range HA3.out) (by rw [TCE.out]; rfl)
  obtain ⟨bg, hbg⟩ : ∃ bg, bg = bigT t := ⟨_, rfl⟩
  rw [← hbg]
  clear b3 rT hbg
  cases bg with
  | true =>
    go_wp2_with (fail)
    go_ret
    exact ⟨rfl, B3.out⟩
  | false =>
    by_cases hn : N = 0
    · have v1 : ((N : Int) == 0) = true := by rw [beq_iff_eq]; omega
      clear hn
      go_wp2_with (fail)
      go_ret
      exact ⟨rfl, B3.out⟩
    have v1 : ((N : Int) == 0) = false := by rw [beq_eq_false_iff_ne]; omega
    have HN := hid hn
    clear hn
    have rO3 := row_range HR3.out
    go_wp2_with (with_reducible refine wpList_load_midG rfl _ _ rfl (w.heap.size + 1) 0 rfl oc _ rO3 Tryd.underlying41 rfl hiO.out ?_)
    refine (CSM w3).out.mono ?_
    rintro e w4 ⟨rfl, b4⟩
    have B4 := hid (show Below w.heap.size w w4 from B3.out.trans (b4.mono B3.out.size))
    have HA4 := hid (heap_keep HA3.out b4)
    have HR4 := hid (heap_keep HR3.out b4)
    have W4 := hid (show w3.heap.size ≤ w4.heap.size from b4.size)
    have k4 := cell_keep b4 k0
    clear b4 rO3 k0
    by_cases hs : o.paths.length ≤ 6
    case neg =>
      rw [decide_eq_false hs]
      clear hs
      go_wp2_with (fail)
      go_ret
      exact ⟨rfl, B4.out⟩
    rw [decide_eq_true hs]
    clear hs v1
    go_upto_region 5 with (fail)
    go_wp2_with (fail)
    refine (onew_walk w4).mono ?_
    rintro e w5 ⟨ob, mb, rfl, off, lo, lm, b5⟩
    have OFF := hid off
    have LO := hid lo
    have LM := hid lm
    have B5 := hid b5
    clear off lo lm b5
    go_wp2_with (fail)
    refine (cnew_walk ob w5).mono ?_
    rintro e w6 ⟨cb, hm, dm, wm, sm, rfl, hc, m1, m2, m3, m4, ord, b6⟩
    have L6 := hid (led_new (HT.out.below B4.out) OFF.out LO.out LM.out B5.out hc m1 m2 m3 m4 ord b6)
    have B46 := hid (show Below w4.heap.size w4 w6 from B5.out.trans (b6.mono B5.out.size))
    clear hc m1 m2 m3 m4 ord b6 OFF LO LM B5
    have OD := hid L6.out.ord
    have B6 := hid (show Below w.heap.size w w6 from B4.out.trans (B46.out.mono B4.out.size))
    have HA6 := hid (heap_keep HA4.out B46.out)
    have HR6 := hid (heap_keep HR4.out B46.out)
    have k6 := cell_keep B46.out k4
    clear k4
    have rO6 := row_range HR6.out
    go_upto_region 6 with (fail)
    go_wp2_with (with_reducible refine wpList_load_mid rfl _ _ rfl (w.heap.size + 1) 0 rfl oc _ rO6 Tryd.underlying41 rfl hiO.out ?_)
    clear rO6
    by_cases hz : o.code = 0
    case neg =>
      have CG := cgive_bad cb o w6 (GO.out.below B6.out) hz
      rw [← OCE.out] at CG
      refine CG.mono ?_
      rintro e w7 ⟨rfl, b7⟩
      have v2 : ((o.code : Int) != 0) = true := by rw [bne_iff_ne]; omega
      have B7 := hid (show Below w.heap.size w w7 from B6.out.trans (b7.mono B6.out.size))
      obtain ⟨pz, hpz⟩ : ∃ pz, pz = ptI zh 0 := ⟨_, rfl⟩
      rw [← hpz]
      have hiPZ := hid (show (Tryd.prog.info? 31).map (·.size) = some pz.toArray.size by rw [hpz]; kernel_rfl)
      have hoPZ := hid (show 33 = pz.toArray.size by rw [hpz]; rfl)
      have h1PZ := hid (show (pz.toArray.all fun x => x.oneCell') = true by rw [hpz]; exact all_oneCell_toArray (ptI_one zh 0))
      clear CG b7 hz k6 hpz
      go_upto_region 7 with (refine wpList_store_row rfl _ _ _ rfl w7.heap.size pz.toArray rfl rfl _ _ (heap_alloc_new _ _) hiPZ.out hoPZ.out h1PZ.out ?_; refine laidW (F := fun w4 => wpList _ _ _ _ _ w4) ?_; intro w8 h8 b8)
      have B8 := hid (show Below w.heap.size w w8 from B7.out.trans (b8.out.mono B7.out.size))
      clear h8 b8
      go_wp2_with (fail)
      go_ret
      exact ⟨rfl, B8.out⟩
    have PN := hid (oPos hz)
    have OLT := hid (out_lt GO.out PN.out)
    have GV := hid (cgive_walk L6.out (by decide) (by decide) o (GO.out.below B6.out) (fun ad ha => by have := OLT.out ad ha; have := OD.out; have := B4.out.size; omega))
    rw [← OCE.out] at GV
    have CZ := hid hz
    clear hz
    refine GV.out.mono ?_
    rintro e w7 hgv
    rcases hgv with ⟨hn, _⟩ | ⟨_, rfl, ⟨a1, k1, of1, l7⟩, k7⟩
    · exact absurd CZ.out hn
    have L7 := hid l7
    have K7 := hid k7
    obtain ⟨gd, hgd⟩ : ∃ gd, gd = giftD (0 + 1) := ⟨_, rfl⟩
    have GD := hid (show H32b gd from by rw [hgd]; exact ⟨sha_len _, sha_lt _⟩)
    rw [← hgd] at L7 ⊢
    clear hgd l7 of1 k7 GV
    obtain ⟨pp, hpp⟩ : ∃ pp, pp = ptI gd 0 := ⟨_, rfl⟩
    rw [← hpp]
    have PPE := hid hpp
    have PPL := hid (show pp.length = 33 from by rw [hpp]; simp [ptI, GD.out.1])
    have hiPP := hid (show (Tryd.prog.info? 31).map (·.size) = some pp.length by rw [PPL.out]; kernel_rfl)
    have hiPA := hid (show (Tryd.prog.info? 31).map (·.size) = some pp.toArray.size by rw [List.size_toArray, PPL.out]; kernel_rfl)
    have hoPA := hid (show 33 = pp.toArray.size by rw [List.size_toArray, PPL.out])
    have h1PA := hid (show (pp.toArray.all fun x => x.oneCell') = true by rw [hpp]; exact all_oneCell_toArray (ptI_one gd 0))
    have LT := hid (show w.heap.size + 1 < w4.heap.size ∧ w4.heap.size ≤ w6.heap.size from ⟨by have := W1.out; have := W2.out; have := W3.out; have := W4.out; omega, B46.out.size⟩)
    have HA7 := hid (K7.out.heap HA6.out (by have := OD.out; have := LT.out; omega))
    have HR7 := hid (K7.out.heap HR6.out (by have := OD.out; have := LT.out; omega))
    clear hpp k6
    go_upto_region 7 with (refine wpList_store_row rfl _ _ _ rfl w7.heap.size pp.toArray rfl rfl _ _ (heap_alloc_new _ _) hiPA.out hoPA.out h1PA.out ?_; refine laidW (F := fun w4 => wpList _ _ _ _ _ w4) ?_; intro w8 h8 b8)
    have HP8 := hid h8.out
    have L8 := hid (L7.out.below b8.out)
    have HA8 := hid (heap_keep HA7.out b8.out)
    have HR8 := hid (heap_keep HR7.out b8.out)
    have PB := hid (show w7.heap.size < w8.heap.size from (Array.getElem?_eq_some_iff.1 h8.out).1)
    have PB2 := hid (show w6.heap.size ≤ w7.heap.size from K7.out.size)
    have K68 := hid (K7.out.trans (Keep.of b8.out))
    clear h8 b8
    generalize w7.heap.size = pb at *
    have k8 := gen_cell (j := 0) (row_range HA8.out) (v := .slice ia N ic) (by rw [TCE.out]; rfl)
    go_upto_region 9 with (fail)
    obtain ⟨i0, r0, hir⟩ : ∃ i0 r0, t.ins = i0 :: r0 := by
      cases hi : t.ins with
      | nil => rw [hi] at NN; exact absurd NN.out HN.out
      | cons i r => exact ⟨i, r, rfl⟩
    have IR := hid hir
    have i0k := hid (G.out.iok i0 (by rw [hir]; simp))
    have IC := hid (show 1 ≤ N ∧ N ≤ ic from ⟨by have := HN.out; omega, PI.out.2.1⟩)
    have BW8 := hid (show Below w.heap.size w w8 from B6.out.trans (K68.out.below (fun i h => by have := OD.out; have := LT.out; omega) B6.out.size))
    have PI1 := hid (show Rd w8 130 ia 1 ic i0.cells from by
      obtain ⟨h1, h2, h3, h4, b, off, ha, hc⟩ := PI.out.below BW8.out
      refine ⟨InD.len i0k.out, by have := IC.out; omega, h3, h4, b, off, fun _ => ha (by have := IC.out; omega), fun j u hu => hc j u ?_⟩
      rw [IR.out, List.flatMap_cons, List.getElem?_append_left (by rw [InD.len i0k.out]; have := (List.getElem?_eq_some_iff.1 hu).1; rw [InD.len i0k.out] at this; exact this)]
      exact hu)
    have OWN := hid (own_new w8 #[] 33 (size := 130) (n := 0) (B := w8.heap.size) rfl (Nat.le_refl _) (by decide))
    have BL := hid ((Below.refl w8.heap.size w8).alloc (Nat.le_refl _) (.cells #[] 33))
    have k9 : (w8.alloc (.cells #[] 33)).cell? ⟨w.heap.size, 0, none⟩ = some (.slice ia N ic) := cell_keep BL.out k8
    have BSZ := hid (show w8.heap.size ≤ (w8.alloc (.cells #[] 33)).heap.size from BL.out.size)
    clear k8 hir
    have PI1b := hid (PI1.out.below BL.out)
    have ONE := hid (InD.one i0)
    have t1 : (1 : Int) ≤ (ic : Int) := by have := IC.out; omega
    have t2 : ¬ ((ic : Int) < 1) := by omega
    have t3 : 1 ≤ ic := by have := IC.out; omega
    have t4 : ¬ (ic < 1) := by omega
    have t5 : decide ((1 : Int) ≤ (ic : Int)) = true := decide_eq_true t1
    have t6 : decide (1 ≤ ic) = true := decide_eq_true t3
    have HAE := hid (heap_keep HA8.out BL.out)
    go_upto_region 10 with (at_builtin; refine wpList_cat rfl _ _ 22 rfl tyIn w8.heap.size OWN.out rfl rfl PI1b.out ONE.out (by decide) (by unfold maxLen; decide) BSZ.out ?_; intro v9 w9 o9 b9 _ _; rw [Nat.zero_add] at o9; obtain ⟨a9, c9, rfl, _⟩ := Rd.of_owns o9; have O9 := hid o9; have B89 := hid (show Below w8.heap.size w8 w9 from BL.out.trans b9); have hT := heap_keep HA8.out B89.out; have cT := gen_cell (j := 0) (row_range (show w9.heap[w.heap.size]? = some (.cells tc.toArray 25 (0, 0)) from hT)) (v := .slice ia N ic) (by rw [TCE.out]; rfl); have zT := frozen_of_row w9 w.heap.size 0 _ _ hT; clear o9 b9 k9)
    clear t1 t2 t3 t4 t5 t6
    obtain ⟨g, rfl, lg⟩ := own_base O9.out (by decide)
    have LG := hid lg
    have HU := hid (show (w9.setCell ⟨w.heap.size, 0, none⟩ (.slice (some ⟨g, 0, none⟩) 1 c9)).heap[w.heap.size]? = some (.cells ([.slice (some ⟨g, 0, none⟩) 1 c9, .slice t.oa t.outs.length t.oc] : List Value).toArray 25 (0, 0)) from by have := heap_set (i := 0) (.slice (some ⟨g, 0, none⟩) 1 c9) hT; rw [TCE.out] at this; exact this)
    have F10 := hid (show Far w.heap.size w9 (w9.setCell ⟨w.heap.size, 0, none⟩ (.slice (some ⟨g, 0, none⟩) 1 c9)) from Far.set _)
    have TL8 := hid (show w.heap.size < w8.heap.size ∧ pb < w8.heap.size ∧ w.heap.size + 1 < w8.heap.size from by have := LT.out; have := PB2.out; have := PB.out; omega)
    have O10 := hid ((Keep.far' F10.out).own O9.out (fun g' hg e => by have : g' = g := (Option.some.inj (show some g = some g' from hg)).symm; have := LG.out; have := TL8.out; omega))
    have OR10 := hid (show (w9.setCell ⟨w.heap.size, 0, none⟩ (.slice (some ⟨g, 0, none⟩) 1 c9)).ownsRow w8.heap.size 33 130 (.slice (some ⟨g, 0, none⟩) 1 c9) 1 (i0.cells ++ []) from by have := O10.out; rw [List.append_nil]; exact this)
    have KT10 := hid (show Keep (fun i => i = w.heap.size) w8 (w9.setCell ⟨w.heap.size, 0, none⟩ (.slice (some ⟨g, 0, none⟩) 1 c9)) from (Keep.of B89.out).trans (Keep.far' F10.out))
    clear hT cT zT lg
    generalize w9.setCell ⟨w.heap.size, 0, none⟩ (.slice (some ⟨g, 0, none⟩) 1 c9) = w10 at *
    have HP10 := hid (KT10.out.heap HP8.out (by have := LT.out; have := PB2.out; omega))
    have kU := gen_cell (j := 0) (row_range HU.out) rfl
    have rP := row_range HP10.out
    have TH := hid (own_sub OR10.out 0 33 (by decide))
    go_upto_region 11 with (first | with_reducible refine wpList_load_mid rfl _ _ rfl pb 0 rfl pp _ rP Tryd.underlying31 rfl hiPP.out ?_ | refine wpList_store_mid rfl _ _ _ rfl g 0 pp.toArray rfl rfl (by rw [show pp.toArray.size = 33 by rw [List.size_toArray, PPL.out]]; exact TH.out) hiPA.out h1PA.out ?_)
    have O11 := hid (show (w10.setCells g 0 pp).ownsRow w8.heap.size 33 130 (.slice (some ⟨g, 0, none⟩) 1 c9) 1 (({ i0 with tx := gd, out := 0 } : InD).cells ++ []) from by have := own_putL pp 0 w10 _ OR10.out; rw [PPE.out, in_at i0k.out GD.out.1] at this; rw [PPE.out]; exact this)
    have F11 := hid (show Far g w10 (w10.setCells g 0 pp) from far_setCells _ _ _)
    have K11 := hid (show Keep (fun i => i = w.heap.size) w8 (w10.setCells g 0 pp) from KT10.out.then (Keep.far' F11.out) (fun i hi e => by have := LG.out; omega))
    have HU11 := hid (heap_far HU.out F11.out (by have := LG.out; have := TL8.out; omega))
    clear kU rP
    generalize w10.setCells g 0 pp = w11 at *
    have HP11 := hid (K11.out.heap HP8.out (by have := LT.out; have := PB2.out; omega))
    have HR11 := hid (K11.out.heap HR8.out (by omega))
    have L11 := hid (L8.out.keepLow K11.out (fun i h => by have := LT.out; have h1 := World.block_lt_of_cell? w _ (HT.out.1 0 (by decide)); have h2 := World.block_lt_of_cell? w _ (HT.out.2 0 (by decide)); dsimp only at h1 h2; omega) (fun p x hx ad ha => by have := L8.out.hk p x hx; have := this.2.1 ad ha; have := LT.out; omega))
    obtain ⟨i1, hi1⟩ : ∃ i1 : InD, i1 = { i0 with tx := gd, out := 0 } := ⟨_, rfl⟩
    obtain ⟨u, hu⟩ : ∃ u, u = TxD.mk (some ⟨g, 0, none⟩) c9 [i1] t.oa t.oc t.outs := ⟨_, rfl⟩
    have UCE := hid (show u.cells = [.slice (some ⟨g, 0, none⟩) 1 c9, .slice t.oa t.outs.length t.oc] from by rw [hu]; rfl)
    have BW11 := hid (show Below w.heap.size w w11 from BW8.out.trans (K11.out.below (fun i h => by omega) BW8.out.size))
    have UGD := hid (show u.good w11 from by
      rw [hu]
      obtain ⟨_, _, e1, r1⟩ := Rd.of_owns O11.out
      simp only [Value.slice.injEq] at e1
      obtain ⟨rfl, _, rfl⟩ := e1
      refine ⟨?_, fun i hi => ?_, (G.out.below BW11.out).outs, (G.out.below BW11.out).ook⟩
      · show Rd w11 130 (some ⟨g, 0, none⟩) 1 c9 ([i1].flatMap InD.cells)
        rw [hi1]
        simpa using r1
      · have hi' : i ∈ [i1] := hi
        rw [List.mem_singleton] at hi'
        rw [hi', hi1]
        exact ⟨GD.out, i64z, i0k.out.path, i0k.out.token, i0k.out.more, i0k.out.secret⟩)
    have NT := hid (none_try (HM := upd (fun _ => none) (gd, 0) (some ⟨o.at' a1 k1, 0⟩)) (SM := fun _ => none) (ht := 0) (t := u) (x := i1) (hd := ⟨o.at' a1 k1, 0⟩) (by rw [hu]) (by rw [hi1]; unfold upd; rw [if_pos rfl]))
    have SND := hid (csend_bad L11.out u UGD.out (fun x _ => none_easy) NT.out.1 NT.out.2)
    rw [UCE.out] at SND
    have UL := hid (show (Tryd.prog.info? 25).map (·.size) = some ([.slice (some ⟨g, 0, none⟩) 1 c9, .slice t.oa t.outs.length t.oc] : List Value).length from by kernel_rfl)
    clear hu hi1
    have rU := row_range HU11.out
    go_wp2_with (with_reducible refine wpList_load_mid rfl _ _ rfl w.heap.size 0 rfl [.slice (some ⟨g, 0, none⟩) 1 c9, .slice t.oa t.outs.length t.oc] _ rU Tryd.underlying25 rfl UL.out ?_)
    refine SND.out.mono ?_
    rintro e w12 ⟨rfl, b12⟩
    have B12 := hid (show Below w.heap.size w w12 from BW11.out.trans (b12.mono BW11.out.size))
    have L12 := hid (L11.out.below b12)
    have HP12 := hid (heap_keep HP11.out b12)
    have HR12 := hid (heap_keep HR11.out b12)
    have Z12 := hid (show w8.heap.size ≤ w12.heap.size from Nat.le_trans K11.out.size b12.size)
    clear b12 rU SND
    obtain ⟨B0, hB0, hB1⟩ : ∃ B0 : Nat, bits .and .i64 bl 31 = (B0 : Int) ∧ B0 < 32 := ⟨(bl % 32).toNat, by rw [and31i]; omega, by omega⟩
    have BB := hid hB1
    clear hB1
    go_upto_region 13 with (fail)
    go_loopw [10] (fun x10 wr => ∃ i : Nat, i ≤ B0 ∧ x10 = .int .i64 (i : Int) ∧ Led wr w4.heap.size w6.heap.size ob mb hm dm wm sm cb (i : Int) (0 + 1) (.slice none 0 0) (upd (fun _ => none) (gd, 0) (some ⟨o.at' a1 k1, 0⟩)) (fun _ => none) (fun _ => none) (0 + 1) ∧ Keep (fun i => i = cb) w12 wr) (fun x10 _ => B0 - (intOf x10).toNat)
    case atStart => exact ⟨0, Nat.zero_le _, rfl, L12.out, Keep.refl _ _⟩
    case round =>
      obtain ⟨i, hi, rfl, hl, hk⟩ := hrel
      have LL := hid hl
      have KK := hid hk
      clear hl hk
      by_cases hlt : i < B0
      case neg =>
        obtain rfl : i = B0 := by omega
        have u1 : decide (i < i) = false := decide_eq_false (by omega)
        have u2 : decide ((i : Int) < (i : Int)) = false := decide_eq_false (by omega)
        clear hi hlt
        have HPr := hid (KK.out.heap HP12.out (by have := OD.out; have := PB2.out; omega))
        have HRr := hid (KK.out.heap HR12.out (by have := OD.out; have := LT.out; omega))
        obtain ⟨nh, _, mh⟩ := LL.out.held
        obtain ⟨ns, _, ms⟩ := LL.out.spent
        have HV := hid (show (upd (fun _ => none) (gd, 0) (some ⟨o.at' a1 k1, 0⟩) : HM') (gd, 0) = some ⟨o.at' a1 k1, 0⟩ from by unfold upd; rw [if_pos rfl])
        have GET := hid (cget_walk LL.out.ch (upd (fun _ => none) (gd, 0) (some ⟨o.at' a1 k1, 0⟩)) mh (fun p x hx => ⟨(LL.out.hk p x hx).1, by have := (LL.out.hk p x hx).2.2.1; omega⟩) gd 0 GD.out i64z)
        have MS := hid ms
        rw [HV.out, ← PPE.out] at GET
        clear mh ms
        have rP := row_range HPr.out
        go_upto_region 17 with (fail)
        go_wp2_with (with_reducible refine wpList_load_mid rfl _ _ rfl pb 0 rfl pp _ rP Tryd.underlying31 rfl hiPP.out ?_)
        refine GET.out.mono ?_
        rintro e w14 ⟨a4, k4, rfl, gd4, b14⟩
        have B14 := hid b14
        obtain ⟨hc, hhc⟩ : ∃ hc, hc = (HeldD.mk ((o.at' a1 k1).at' a4 k4) 0).cells := ⟨_, rfl⟩
        have HL := hid (show hc.length = 35 from by rw [hhc]; exact HeldD.len (h := ⟨(o.at' a1 k1).at' a4 k4, 0⟩) gd4)
        have hiH := hid (show (Tryd.prog.info? 53).map (·.size) = some hc.toArray.size by rw [List.size_toArray, HL.out]; kernel_rfl)
        have hoH := hid (show 35 = hc.toArray.size by rw [List.size_toArray, HL.out])
        have h1H := hid (show (hc.toArray.all fun x => x.oneCell') = true by rw [hhc]; exact all_oneCell_toArray (HeldD.one _))
        have H0 := hid (show hc[0]? = some (.int .u64 (o.coins : Int)) from by rw [hhc]; rfl)
        have EHC : (HeldD.mk ((o.at' a1 k1).at' a4 k4) 0).cells = hc := hhc.symm
        rw [show (((some (HeldD.mk (o.at' a1 k1) 0)).getD zHeld).out.at' a4 k4) = (o.at' a1 k1).at' a4 k4 from rfl, show ((some (HeldD.mk (o.at' a1 k1) 0)).getD zHeld).height = 0 from rfl, EHC]
        have HPv := hid (heap_keep HPr.out b14)
        have HRv := hid (heap_keep HRr.out b14)
        clear gd4 b14 hhc EHC GET rP
        go_upto_region 18 with (refine wpList_store_row rfl _ _ _ rfl w14.heap.size hc.toArray rfl rfl _ _ (heap_alloc_new _ _) hiH.out hoH.out h1H.out ?_; refine laidW (F := fun w4 => wpList _ _ _ _ _ w4) ?_; intro w15 h15 b15)
        have HV15 := hid h15.out
        have B15 := hid (show Below wr.heap.size wr w15 from B14.out.trans (b15.out.mono B14.out.size))
        have HPw := hid (heap_keep HPv.out b15.out)
        have HRw := hid (heap_keep HRv.out b15.out)
        have SP := hid (cspent_walk (LL.out.ch.below B15.out) (fun _ => none) (MS.out.below B15.out) (fun p x hx => by cases hx) gd 0 GD.out i64z)
        rw [← PPE.out] at SP
        have rP := row_range HPw.out
        clear h15 b15
        go_wp2_with (with_reducible refine wpList_load_mid rfl _ _ rfl pb 0 rfl pp _ rP Tryd.underlying31 rfl hiPP.out ?_)
        refine SP.out.mono ?_
        rintro e w16 ⟨rfl, b16⟩
        have B16 := hid (show Below wr.heap.size wr w16 from B15.out.trans (b16.mono B15.out.size))
        have c0 := gen_cell (j := 0) (row_range (heap_keep HV15.out b16)) H0.out
        have cO := gen_cell (j := 0) (row_range (heap_keep HRw.out b16)) OC0.out
        obtain ⟨zr, hzr⟩ : ∃ zr : List Nat, zr = (none : Option (List Nat)).getD zh := ⟨_, rfl⟩
        rw [← hzr]
        have hiZR := hid (show (Tryd.prog.info? 27).map (·.size) = some (nums .u8 zr).toArray.size by rw [hzr]; kernel_rfl)
        have hoZR := hid (show 32 = (nums .u8 zr).toArray.size by rw [hzr]; rfl)
        have h1ZR := hid (all_oneCell_toArray (nums_oneCell .u8 zr))
        clear hzr b16 rP SP
        go_upto_region 19 with (refine wpList_store_row rfl _ _ _ rfl w16.heap.size (nums .u8 zr).toArray rfl rfl _ _ (heap_alloc_new _ _) hiZR.out hoZR.out h1ZR.out ?_; refine laidW (F := fun w4 => wpList _ _ _ _ _ w4) ?_; intro w17 h17 b17)
        have d0 := cell_keep b17.out c0
        have dO := cell_keep b17.out cO
        have B17 := hid (show Below wr.heap.size wr w17 from B16.out.trans (b17.out.mono B16.out.size))
        have v7 : ((o.coins : Int) == (o.coins : Int)) = true := beq_self_eq_true _
        clear h17 b17 c0 cO
        go_wp2_with (fail)
        go_ret
        have kw : Below w.heap.size w wr := B12.out.trans (KK.out.below (fun i h => by have := OD.out; have := LT.out; omega) B12.out.size)
        exact ⟨rfl, kw.trans (B17.out.mono kw.size)⟩
      have u1 : decide (i < B0) = true := decide_eq_true hlt
      have u2 : decide ((i : Int) < (B0 : Int)) = true := decide_eq_true (by omega)
      obtain ⟨i1', hi1'⟩ : ∃ i1, i1 = i + 1 := ⟨_, rfl⟩
      have r4 : IntKind.i64.wrap ((i : Int) + 1) = (i1' : Int) := by have := BB.out; rw [IntKind.wrap_i64]; omega
      have I1 := hid (And.intro hi1' hlt)
      have MN := hid (cmine0_walk LL.out (by have := BB.out; omega))
      have v3 : ((0 : Int) != 0) = false := by decide
      clear hi hlt hi1'
      go_upto_region 15 with (fail)
      go_wp2_with (fail)
      refine MN.out.mono ?_
      rintro e w13 ⟨rfl, l13, k13⟩
      have L13 := hid l13
      have K13 := hid k13
      clear l13 k13 MN
      go_wp2_with (fail)
      go_roundw
      case rel => exact ⟨i1', by have := I1.out; omega, rfl, by have := L13.out; rw [show ((i : Int) + 1) = (i1' : Int) from by have := I1.out; omega] at this; exact this, KK.out.trans K13.out⟩
      case measure => simp [intOf]; have := I1.out; omega
end Go.Proofs.YtdopbhahcpjjgaaDoor

/- Whether two geneses are the same; the walk of the statement AssetNames. -/
import Derived.Test.YtgaidleepjkldaaDoorGenI
import Derived.Test.YtgaidleepjkldaaDoorOpenA
namespace Go.Proofs.YtgaidleepjkldaaDoor
open Go.RowKit

def SameG (g k : Gen) (w : World) (e : Ending) (w' : World) : Prop := ∃ r : Bool, e = .returned (.bool r) ∧ (r = true ↔ g = k) ∧ Below w.heap.size w w'
theorem gen_eq (g k : Gen) : g = k ↔ g.tx = k.tx ∧ g.out = k.out ∧ g.nm = k.nm ∧ g.me = k.me ∧ g.kind = k.kind := by
  obtain ⟨a1, a2, a3, a4, a5⟩ := g
  obtain ⟨b1, b2, b3, b4, b5⟩ := k
  simp
set_option maxRecDepth 100000 in
set_option maxHeartbeats 4000000 in
theorem rsame2_walk (g k : Gen) (a : Option Addr) (c : Nat) (a' : Option Addr) (c' : Nat) (w : World) (h : g.good w a c) (h' : k.good w a' c') :
    Calls Tryd.prog 8 #[.agg (g.cells a c).toArray, .agg (k.cells a' c').toArray] w (SameG g k w) := by
  have A2 := alloc2p w (.cells (g.cells a c).toArray 36) (.cells (k.cells a' c').toArray 36)
  have hr := row_range A2.1
  have hr' := row_range A2.2.1
  have HB := hid A2.2.2.2
  have s1 := h.sl.below A2.2.2.2
  have s2 := h'.sl.below A2.2.2.2
  obtain ⟨b3, i3⟩ : ∃ b3 : Bool, b3 = decide (g.nm = k.nm) := ⟨_, rfl⟩
  have SS := fun wx k1 k2 => hid (same_walk a a' g.nm.length c k.nm.length c' g.nm k.nm h.nb h'.nb wx k1 k2)
  rw [← i3] at SS
  obtain ⟨e1, e2, e3, _, e5, e6⟩ := Gen.at' a c h.tl h.ml
  obtain ⟨e1', e2', e3', _, e5', e6'⟩ := Gen.at' a' c' h'.tl h'.ml
  have c1 := gen_cell hr e1
  have c2 := gen_cell hr e2
  have c3 := gen_cell hr e3
  have c1' := gen_cell hr' e1'
  have c2' := gen_cell hr' e2'
  have c3' := gen_cell hr' e3'
  have r1 := gen_range hr 0 32
  rw [List.drop_zero, e5] at r1
  have r2 := gen_range hr 34 32
  rw [e6] at r2
  have r1' := gen_range hr' 0 32
  rw [List.drop_zero, e5'] at r1'
  have r2' := gen_range hr' 34 32
  rw [e6'] at r2'
  obtain ⟨b1, i1⟩ : ∃ b1 : Bool, b1 = decide (g.tx = k.tx) := ⟨_, rfl⟩
  have eT : ∀ w : World, (binOp .eql 22 (.agg (nums .u8 g.tx).toArray) (.agg (nums .u8 k.tx).toArray)).run Tryd.prog w = .ok (.bool b1) w := fun w => i1 ▸ run_eql_hv Tryd.underlying22 w h.tl h'.tl h.tb h'.tb
  have gT := keyArr.guarded (nums .u8 g.tx).toArray (nums .u8 k.tx).toArray
  obtain ⟨b4, i4⟩ : ∃ b4 : Bool, b4 = decide (g.me = k.me) := ⟨_, rfl⟩
  have eM : ∀ w : World, (binOp .eql 22 (.agg (nums .u8 g.me).toArray) (.agg (nums .u8 k.me).toArray)).run Tryd.prog w = .ok (.bool b4) w := fun w => i4 ▸ run_eql_hv Tryd.underlying22 w h.ml h'.ml h.mb h'.mb
  have gM := keyArr.guarded (nums .u8 g.me).toArray (nums .u8 k.me).toArray
  obtain ⟨b2, i2⟩ : ∃ b2 : Bool, (g.out == k.out) = b2 := ⟨_, rfl⟩
  obtain ⟨b5, i5⟩ : ∃ b5 : Bool, (g.kind == k.kind) = b5 := ⟨_, rfl⟩
  have HI := hid (show (b1 && b2 && b3 && b4 && b5) = true ↔ g = k by
    rw [gen_eq, i1, ← i2, i3, i4, ← i5]
    simp [and_assoc])
  have hi1 := hid (show (Tryd.prog.info? 22).map (·.size) = some (nums .u8 g.tx).length by rw [nums_length, h.tl]; exact info32)
  have hi2 := hid (show (Tryd.prog.info? 22).map (·.size) = some (nums .u8 g.me).length by rw [nums_length, h.ml]; exact info32)
  have hi1' := hid (show (Tryd.prog.info? 22).map (·.size) = some (nums .u8 k.tx).length by rw [nums_length, h'.tl]; exact info32)
  have hi2' := hid (show (Tryd.prog.info? 22).map (·.size) = some (nums .u8 k.me).length by rw [nums_length, h'.ml]; exact info32)
  clear e1 e2 e3 e5 e6 e1' e2' e3' e5' e6' hr hr' A2 h h' i1 i3 i4
  generalize nums .u8 g.tx = TL at *
  generalize nums .u8 g.me = ML at *
  generalize nums .u8 k.tx = TL' at *
  generalize nums .u8 k.me = ML' at *
  cases b1
  · go_enter Tryd.func8, Tryd.ntmps8
    go_upto_region 1 with (fail)
    generalize (w.alloc (.cells (g.cells a c).toArray 36)).alloc (.cells (k.cells a' c').toArray 36) = W at *
    have SX := hid (SS W s1 s2).out
    clear SS s1 s2
    go_wp2_with (first | refine wpList_load_midG rfl _ _ rfl w.heap.size 0 rfl TL _ r1 Tryd.underlying22 rfl hi1.out ?_ | refine wpList_load_midG rfl _ _ rfl (w.heap.size + 1) 0 rfl TL' _ r1' Tryd.underlying22 rfl hi1'.out ?_ | refine wpList_load_midG rfl _ _ rfl w.heap.size 34 rfl ML _ r2 Tryd.underlying22 rfl hi2.out ?_ | refine wpList_load_midG rfl _ _ rfl (w.heap.size + 1) 34 rfl ML' _ r2' Tryd.underlying22 rfl hi2'.out ?_ | (go_at_call 10; refine SX.out.mono ?_; rintro e wS ⟨rfl, rfl⟩))
    go_ret
    exact ⟨_, rfl, HI.out, HB.out⟩
  · cases b2
    · go_enter Tryd.func8, Tryd.ntmps8
      go_upto_region 1 with (fail)
      generalize (w.alloc (.cells (g.cells a c).toArray 36)).alloc (.cells (k.cells a' c').toArray 36) = W at *
      have SX := hid (SS W s1 s2).out
      clear SS s1 s2
      go_wp2_with (first | refine wpList_load_midG rfl _ _ rfl w.heap.size 0 rfl TL _ r1 Tryd.underlying22 rfl hi1.out ?_ | refine wpList_load_midG rfl _ _ rfl (w.heap.size + 1) 0 rfl TL' _ r1' Tryd.underlying22 rfl hi1'.out ?_ | refine wpList_load_midG rfl _ _ rfl w.heap.size 34 rfl ML _ r2 Tryd.underlying22 rfl hi2.out ?_ | refine wpList_load_midG rfl _ _ rfl (w.heap.size + 1) 34 rfl ML' _ r2' Tryd.underlying22 rfl hi2'.out ?_ | (go_at_call 10; refine SX.out.mono ?_; rintro e wS ⟨rfl, rfl⟩))
      go_ret
      exact ⟨_, rfl, HI.out, HB.out⟩
    · cases b3
      · go_enter Tryd.func8, Tryd.ntmps8
        go_upto_region 1 with (fail)
        generalize (w.alloc (.cells (g.cells a c).toArray 36)).alloc (.cells (k.cells a' c').toArray 36) = W at *
        have SX := hid (SS W s1 s2).out
        clear SS s1 s2
        go_wp2_with (first | refine wpList_load_midG rfl _ _ rfl w.heap.size 0 rfl TL _ r1 Tryd.underlying22 rfl hi1.out ?_ | refine wpList_load_midG rfl _ _ rfl (w.heap.size + 1) 0 rfl TL' _ r1' Tryd.underlying22 rfl hi1'.out ?_ | refine wpList_load_midG rfl _ _ rfl w.heap.size 34 rfl ML _ r2 Tryd.underlying22 rfl hi2.out ?_ | refine wpList_load_midG rfl _ _ rfl (w.heap.size + 1) 34 rfl ML' _ r2' Tryd.underlying22 rfl hi2'.out ?_ | (go_at_call 10; refine SX.out.mono ?_; rintro e wS ⟨rfl, rfl⟩))
        go_ret
        exact ⟨_, rfl, HI.out, HB.out⟩
      · cases b4
        · go_enter Tryd.func8, Tryd.ntmps8
          go_upto_region 1 with (fail)
          generalize (w.alloc (.cells (g.cells a c).toArray 36)).alloc (.cells (k.cells a' c').toArray 36) = W at *
          have SX := hid (SS W s1 s2).out
          clear SS s1 s2
          go_wp2_with (first | refine wpList_load_midG rfl _ _ rfl w.heap.size 0 rfl TL _ r1 Tryd.underlying22 rfl hi1.out ?_ | refine wpList_load_midG rfl _ _ rfl (w.heap.size + 1) 0 rfl TL' _ r1' Tryd.underlying22 rfl hi1'.out ?_ | refine wpList_load_midG rfl _ _ rfl w.heap.size 34 rfl ML _ r2 Tryd.underlying22 rfl hi2.out ?_ | refine wpList_load_midG rfl _ _ rfl (w.heap.size + 1) 34 rfl ML' _ r2' Tryd.underlying22 rfl hi2'.out ?_ | (go_at_call 10; refine SX.out.mono ?_; rintro e wS ⟨rfl, rfl⟩))
          go_ret
          exact ⟨_, rfl, HI.out, HB.out⟩
        · cases b5
          · go_enter Tryd.func8, Tryd.ntmps8
            go_upto_region 1 with (fail)
            generalize (w.alloc (.cells (g.cells a c).toArray 36)).alloc (.cells (k.cells a' c').toArray 36) = W at *
            have SX := hid (SS W s1 s2).out
            clear SS s1 s2
            go_wp2_with (first | refine wpList_load_midG rfl _ _ rfl w.heap.size 0 rfl TL _ r1 Tryd.underlying22 rfl hi1.out ?_ | refine wpList_load_midG rfl _ _ rfl (w.heap.size + 1) 0 rfl TL' _ r1' Tryd.underlying22 rfl hi1'.out ?_ | refine wpList_load_midG rfl _ _ rfl w.heap.size 34 rfl ML _ r2 Tryd.underlying22 rfl hi2.out ?_ | refine wpList_load_midG rfl _ _ rfl (w.heap.size + 1) 34 rfl ML' _ r2' Tryd.underlying22 rfl hi2'.out ?_ | (go_at_call 10; refine SX.out.mono ?_; rintro e wS ⟨rfl, rfl⟩))
            go_ret
            exact ⟨_, rfl, HI.out, HB.out⟩
          · go_enter Tryd.func8, Tryd.ntmps8
            go_upto_region 1 with (fail)
            generalize (w.alloc (.cells (g.cells a c).toArray 36)).alloc (.cells (k.cells a' c').toArray 36) = W at *
            have SX := hid (SS W s1 s2).out
            clear SS s1 s2
            go_wp2_with (first | refine wpList_load_midG rfl _ _ rfl w.heap.size 0 rfl TL _ r1 Tryd.underlying22 rfl hi1.out ?_ | refine wpList_load_midG rfl _ _ rfl (w.heap.size + 1) 0 rfl TL' _ r1' Tryd.underlying22 rfl hi1'.out ?_ | refine wpList_load_midG rfl _ _ rfl w.heap.size 34 rfl ML _ r2 Tryd.underlying22 rfl hi2.out ?_ | refine wpList_load_midG rfl _ _ rfl (w.heap.size + 1) 34 rfl ML' _ r2' Tryd.underlying22 rfl hi2'.out ?_ | (go_at_call 10; refine SX.out.mono ?_; rintro e wS ⟨rfl, rfl⟩))
            go_ret
            exact ⟨_, rfl, HI.out, HB.out⟩
theorem idz_guard (xs : List Nat) : ∀ (op : BinOp) (x y : Operand) (w : World), (eqGuard op 23 x y (hv xs) (.agg #[.int .u8 0, .int .u8 0, .int .u8 0, .int .u8 0, .int .u8 0, .int .u8 0, .int .u8 0, .int .u8 0, .int .u8 0, .int .u8 0, .int .u8 0, .int .u8 0, .int .u8 0, .int .u8 0, .int .u8 0, .int .u8 0, .int .u8 0, .int .u8 0, .int .u8 0, .int .u8 0, .int .u8 0, .int .u8 0, .int .u8 0, .int .u8 0, .int .u8 0, .int .u8 0, .int .u8 0, .int .u8 0, .int .u8 0, .int .u8 0, .int .u8 0, .int .u8 0])).run Tryd.prog w = .ok () w := guard_hv xs pzero
theorem idz_eql : ∀ w : World, (binOp .eql 23 (hv pzero) (.agg #[.int .u8 0, .int .u8 0, .int .u8 0, .int .u8 0, .int .u8 0, .int .u8 0, .int .u8 0, .int .u8 0, .int .u8 0, .int .u8 0, .int .u8 0, .int .u8 0, .int .u8 0, .int .u8 0, .int .u8 0, .int .u8 0, .int .u8 0, .int .u8 0, .int .u8 0, .int .u8 0, .int .u8 0, .int .u8 0, .int .u8 0, .int .u8 0, .int .u8 0, .int .u8 0, .int .u8 0, .int .u8 0, .int .u8 0, .int .u8 0, .int .u8 0, .int .u8 0])).run Tryd.prog w = .ok (.bool true) w := fun w => by
  have := eql_hv (w := w) (xs := pzero) (ys := pzero) rfl rfl (by intro d hd; simp [pzero] at hd; omega) (by intro d hd; simp [pzero] at hd; omega)
  rw [decide_eq_true rfl] at this; exact this
set_option maxRecDepth 100000 in
set_option maxHeartbeats 8000000 in
theorem lawNames (g k : Gen) (a : Option Addr) (c : Nat) (a' : Option Addr) (c' : Nat) (w : World) (h : g.good w a c) (h' : k.good w a' c') (ht : Tabs w) :
    Calls Tryd.prog 3 #[.agg (g.cells a c).toArray, .agg (k.cells a' c').toArray] w fun e w' => e = .returned (.bool true) ∧ Below w.heap.size w w' := by
  have A2 := alloc2p w (.cells (g.cells a c).toArray 28) (.cells (k.cells a' c').toArray 28)
  have HT := hid ht
  have GP := hid A2.1
  have KP := hid A2.2.1
  have B0 := hid A2.2.2.2
  have HG0 := hid (h.below A2.2.2.2)
  have HK0 := hid (h'.below A2.2.2.2)
  have hg1 := hid h.tl
  have hg2 := hid h.ml
  have hk1 := hid h'.tl
  have hk2 := hid h'.ml
  have hiG := hid (show (Tryd.prog.info? 28).map (·.size) = some (g.cells a c).length by rw [Gen.len a c h.tl h.ml]; exact infoGen)
  have hiK := hid (show (Tryd.prog.info? 28).map (·.size) = some (k.cells a' c').length by rw [Gen.len a' c' h'.tl h'.ml]; exact infoGen)
  obtain ⟨_, e2, _⟩ := Gen.at' a c h.tl h.ml
  obtain ⟨_, e2', _⟩ := Gen.at' a' c' h'.tl h'.ml
  have E2 := hid e2
  have E2' := hid e2'
  obtain ⟨X, hX⟩ : ∃ X, X = (if g.check = 0 then g.bytes else []) := ⟨_, rfl⟩
  obtain ⟨Y, hY⟩ : ∃ Y, Y = (if k.check = 0 then k.bytes else []) := ⟨_, rfl⟩
  have GW := fun w h => genc_walk g a c w h
  have KW := fun w h => genc_walk k a' c' w h
  unfold GEnc at GW KW
  rw [← hX] at GW
  rw [← hY] at KW
  obtain ⟨cg, hcg⟩ : ∃ x, x = g.check := ⟨_, rfl⟩
  obtain ⟨ck, hck⟩ : ∃ x, x = k.check := ⟨_, rfl⟩
  rw [← hcg] at GW
  rw [← hck] at KW
  have GW := hid GW
  have KW := hid KW
  have HX := hid hX
  have HY := hid hY
  have HCG := hid hcg
  have HCK := hid hck
  clear A2 h h' ht e2 e2' hX hY hcg hck
  go_enter Tryd.func3, Tryd.ntmps3
  go_upto_region 1 with (fail)
  generalize (w.alloc (.cells (g.cells a c).toArray 28)).alloc (.cells (k.cells a' c').toArray 28) = w0 at *
  generalize hPA : w.heap.size = PA at *
  generalize hPB : PA + 1 = PB at *
  have hPAB : PA ≤ PB := by omega
  clear hPB
  go_wp2_with fail
  refine (head_walk _).mono ?_
  rintro e w1 ⟨rfl, b1⟩
  have hw0 : PA ≤ w0.heap.size := Nat.le_of_lt (Array.getElem?_eq_some_iff.1 GP.out).1
  have B1 := hid (B0.out.trans (b1.mono hw0))
  have GP1 := hid (heap_keep GP.out b1)
  have KP1 := hid (heap_keep KP.out b1)
  have HG1 := hid (HG0.out.below b1)
  have HK1 := hid (HK0.out.below b1)
  have hw1 : PA ≤ w1.heap.size := Nat.le_of_lt (Array.getElem?_eq_some_iff.1 GP1.out).1
  have c2 := gen_cell (row_range GP1.out) E2.out
  have c2' := gen_cell (row_range KP1.out) E2'.out
  clear b1 GP KP B0 HG0 HK0 hw0
  by_cases hbig : 100 < g.nm.length ∨ 100 < k.nm.length
  · have hcase : 100 < g.nm.length ∨ (g.nm.length ≤ 100 ∧ 100 < k.nm.length) := by omega
    clear hbig
    rcases hcase with h1 | ⟨h1, h2⟩
    · have t1 : decide ((g.nm.length : Int) > 100) = true := by rw [decide_eq_true_eq]; omega
      clear h1
      go_wp2
      go_ret
      exact ⟨rfl, hPA ▸ B1.out⟩
    · have t1 : decide ((g.nm.length : Int) > 100) = false := by rw [decide_eq_false_iff_not]; omega
      have t2 : decide ((k.nm.length : Int) > 100) = true := by rw [decide_eq_true_eq]; omega
      clear h1 h2
      go_wp2
      go_ret
      exact ⟨rfl, hPA ▸ B1.out⟩
  · have t1 : decide ((g.nm.length : Int) > 100) = false := by rw [decide_eq_false_iff_not]; omega
    have t2 : decide ((k.nm.length : Int) > 100) = false := by rw [decide_eq_false_iff_not]; omega
    clear hbig
    have rA := row_range GP1.out
    go_wp2_with (refine wpList_load_mid rfl _ _ rfl PA 0 rfl (g.cells a c) _ rA Tryd.underlying28 rfl hiG.out ?_)
    refine (GW.out _ HG1.out).mono ?_
    rintro e w2 ⟨v2, rfl, ⟨ax, cx, rfl, sx⟩, b2⟩
    obtain ⟨nx, hnx⟩ : ∃ nx, nx = X.length := ⟨_, rfl⟩
    rw [← hnx] at sx ⊢
    have HNX := hid hnx
    have B2 := hid (B1.out.trans (b2.mono hw1))
    have GP2 := hid (heap_keep GP1.out b2)
    have KP2 := hid (heap_keep KP1.out b2)
    have HG2 := hid (HG1.out.below b2)
    have HK2 := hid (HK1.out.below b2)
    have hw2 : PA ≤ w2.heap.size := Nat.le_of_lt (Array.getElem?_eq_some_iff.1 GP2.out).1
    have SX2 := hid sx
    clear b2 sx hnx B1 GP1 KP1 HG1 HK1 rA c2 c2' t1 t2
    have rB := row_range KP2.out
    go_wp2_with (refine wpList_load_mid rfl _ _ rfl PB 0 rfl (k.cells a' c') _ rB Tryd.underlying28 rfl hiK.out ?_)
    refine (KW.out _ HK2.out).mono ?_
    rintro e wz ⟨v3, rfl, ⟨ay, cy, rfl, sy⟩, b3⟩
    obtain ⟨ny, hny⟩ : ∃ ny, ny = Y.length := ⟨_, rfl⟩
    rw [← hny] at sy ⊢
    have HNY := hid hny
    have Bz := hid (B2.out.trans (b3.mono hw2))
    have GPz := hid (heap_keep GP2.out b3)
    have KPz := hid (heap_keep KP2.out b3)
    have HGz := hid (HG2.out.below b3)
    have HKz := hid (HK2.out.below b3)
    have hwz : PA ≤ wz.heap.size := Nat.le_of_lt (Array.getElem?_eq_some_iff.1 GPz.out).1
    have SXz := hid (SX2.out.below b3)
    have SYz := hid sy
    clear b3 sy hny B2 GP2 KP2 HG2 HK2 rB SX2
    by_cases hgc : cg = 0
    · have t3 : ((cg : Int) == 0) = true := by rw [beq_iff_eq]; omega
      have t4 : ((cg : Int) != 0) = false := by rw [hgc]; rfl
      by_cases hkc : ck = 0
      · subst hgc hkc
        have RA := hid (row_range GPz.out)
        have RB := hid (row_range KPz.out)
        have hgc := HCG.out.symm
        have hkc := HCK.out.symm
        have HXB := hid (show X = g.bytes by rw [HX.out, if_pos hgc])
        have HYB := hid (show Y = k.bytes by rw [HY.out, if_pos hkc])
        have HXl := hid (show ∀ d ∈ X, d < 256 by rw [HXB.out]; exact gen_bytes_lt hgc HGz.out.mb HGz.out.tb HGz.out.nb)
        have HYl := hid (show ∀ d ∈ Y, d < 256 by rw [HYB.out]; exact gen_bytes_lt hkc HKz.out.mb HKz.out.tb HKz.out.nb)
        have HINJ := hid (show X = Y ↔ g = k by rw [HXB.out, HYB.out]; exact gen_bytes_inj hgc hg2.out hg1.out hkc hk2.out hk1.out)
        clear hgc hkc t3 t4
        go_upto_region 9 with (fail)
        refine wp_region_held_drew (S := fun w' => Below wz.heap.size wz w') (by kernel_rfl) ((Below.refl _ _).drew) (fun hHeld => ?_)
        try simp only [List.size_toArray, List.length_cons, List.length_nil, Nat.reduceAdd, Array.replicate_succ, Array.replicate_zero, List.push_toArray, List.nil_append, List.cons_append]
        refine' wpAnyH_take (i := 0) (oi := { dst := some 56, op := Op.load 28 (Operand.tmp 2), type := 28, pos := "law.go:118", after := #[], guard := none }) (v := _) rfl (by kernel_rfl) (by kernel_rfl) (by kernel_rfl) (fun _ _ _ h => h) (yieldsIf_load_mid (by rfl) _ _ rfl PA 0 rfl (g.cells a c) _ (fun _ h => range_keep h RA.out) Tryd.underlying28 rfl hiG.out) hHeld ?_
        (try simp only [Act.put, List.setIfInBounds_toArray, List.set_cons_zero, List.set_cons_succ])
        refine' wpAnyH_take (i := 2) (oi := { dst := some 58, op := Op.load 28 (Operand.tmp 3), type := 28, pos := "law.go:118", after := #[], guard := none }) (v := _) rfl (by kernel_rfl) (by kernel_rfl) (by kernel_rfl) (fun _ _ _ h => h) (yieldsIf_load_mid (by rfl) _ _ rfl PB 0 rfl (k.cells a' c') _ (fun _ h => range_keep h RB.out) Tryd.underlying28 rfl hiK.out) hHeld ?_
        (try simp only [Act.put, List.setIfInBounds_toArray, List.set_cons_zero, List.set_cons_succ])
        refine wpAnyH_ready (rs := [1]) (by kernel_rfl) (by simp) ?_
        refine AllReadyH.cons (o := { dst := some 57, op := Op.call { callee := Callee.value (Operand.func 9), args := #[Operand.tmp 56], argTypes := #[28] }, type := 36, pos := "law.go:118", after := #[{ on := 0, ground := Ground.data }], guard := none }) rfl (fun K hK => ?_) ?_
        go_simp; refine (plain_walk g a c hg1.out hg2.out _).mono ?_; rintro e wa ⟨rfl, ba⟩; have BA := hid ba; clear ba
        refine hK.out _ _ (by first | exact hHeld.trans (BA.out.mono hHeld.size) | exact BA.out) (fun hHeld => ?_)
        clear hK K
        (try simp only [List.setIfInBounds_toArray, List.set_cons_zero, List.set_cons_succ])
        refine wpAnyH_ready (rs := [3]) (by kernel_rfl) (by simp) ?_
        refine AllReadyH.cons (o := { dst := some 59, op := Op.call { callee := Callee.value (Operand.func 9), args := #[Operand.tmp 58], argTypes := #[28] }, type := 36, pos := "law.go:118", after := #[{ on := 2, ground := Ground.data }, { on := 1, ground := Ground.chain }], guard := none }) rfl (fun K hK => ?_) ?_
        go_simp; refine (plain_walk k a' c' hk1.out hk2.out _).mono ?_; rintro e wb ⟨rfl, bb⟩; have BB := hid bb; clear bb
        refine hK.out _ _ (by first | exact hHeld.trans (BB.out.mono hHeld.size) | exact BB.out) (fun hHeld => ?_)
        clear hK K
        (try simp only [List.setIfInBounds_toArray, List.set_cons_zero, List.set_cons_succ])
        refine wpAnyH_ready (rs := [4]) (by kernel_rfl) (by simp) ?_
        refine AllReadyH.cons (o := { dst := some 60, op := Op.call { callee := Callee.value (Operand.func 8), args := #[Operand.tmp 57, Operand.tmp 59], argTypes := #[36, 36] }, type := 4, pos := "law.go:118", after := #[{ on := 1, ground := Ground.data }, { on := 3, ground := Ground.data }, { on := 3, ground := Ground.chain }], guard := none }) rfl (fun K hK => ?_) ?_
        go_simp; refine (rsame2_walk g k a c a' c' _ (HGz.out.below hHeld) (HKz.out.below hHeld)).mono ?_; rintro e wc ⟨r, rfl, hr, bc⟩; have BC := hid bc; have HR := hid hr; clear bc hr
        refine hK.out _ _ (by first | exact hHeld.trans (BC.out.mono hHeld.size) | exact BC.out) (fun hHeld => ?_)
        clear hK K
        (try simp only [List.setIfInBounds_toArray, List.set_cons_zero, List.set_cons_succ])
        refine wpAnyH_take (i := 5) (oi := { dst := some 9, op := Op.assign (Operand.tmp 60), type := 4, pos := "law.go:118", after := #[{ on := 4, ground := Ground.data }, { on := 4, ground := Ground.chain }, { on := 0, ground := Ground.phase }, { on := 1, ground := Ground.phase }, { on := 2, ground := Ground.phase }, { on := 3, ground := Ground.phase }, { on := 4, ground := Ground.phase }], guard := none }) (v := ?vq1) rfl (by kernel_rfl) (by kernel_rfl) (by kernel_rfl) (fun _ _ _ h => h) (Or.inl ⟨by rfl, ?hyq1⟩) hHeld ?_
        case hyq1 => (intro w hSw; (try dsimp only at hSw); go_simp; (try with_reducible rfl))
        (try simp only [Act.put, List.setIfInBounds_toArray, List.set_cons_zero, List.set_cons_succ])
        refine wpAnyH_done (by kernel_rfl) ?_ _
        rotate_left
        exact AllReadyH.nil
        exact AllReadyH.nil
        exact AllReadyH.nil
        all_goals
          have Bc := hid (Bz.out.trans (hHeld.mono hwz))
          have GPc := hid (heap_keep GPz.out hHeld)
          have KPc := hid (heap_keep KPz.out hHeld)
          have HGy := hid (HGz.out.below hHeld)
          have HKy := hid (HKz.out.below hHeld)
          have SX := hid (SXz.out.below hHeld)
          have SY := hid (SYz.out.below hHeld)
          have RAy := hid (row_range GPc.out)
          have RBy := hid (row_range KPc.out)
          have HTy := hid (HT.out.below (hPA ▸ Bc.out))
          have hwc : PA ≤ wc.heap.size := Nat.le_of_lt (Array.getElem?_eq_some_iff.1 GPc.out).1
          have SW : ∀ w, Sl .u8 w ax nx cx X → Sl .u8 w ay ny cy Y → Calls Tryd.prog 10 #[.slice ax nx cx, .slice ay ny cy] w fun e w' => e = .returned (.bool r) ∧ w = w' := fun w h1 h2 => by
            have e : r = decide (X = Y) := by
              rw [Bool.eq_iff_iff, decide_eq_true_eq, HR.out, HINJ.out]
            rw [e]
            exact same_walk ax ay nx cx ny cy X Y HXl.out HYl.out w h1 h2
          have SW := hid SW
          have e1 : ∀ (op : BinOp) (x y : Operand) (w : World), (eqGuard op 23 x y (hv (idG g)) (hv (idG k))).run Tryd.prog w = .ok () w := guard_hv (idG g) (idG k)
          clear hHeld GPz KPz HGz HKz SXz SYz Bz RA RB GPc KPc
          cases r
          · go_upto_region 10 with (fail)
            clear e1
            refine wp_region_held_drew (S := fun w' => Below wc.heap.size wc w') (by kernel_rfl) ((Below.refl _ _).drew) (fun hHeld => ?_)
            try simp only [List.size_toArray, List.length_cons, List.length_nil, Nat.reduceAdd, Array.replicate_succ, Array.replicate_zero, List.push_toArray, List.nil_append, List.cons_append]
            refine wpAnyH_take (i := 0) (oi := { dst := some 61, op := Op.move (Operand.tmp 5), type := 26, pos := "law.go:119", after := #[], guard := none }) (v := ?vn1) rfl (by kernel_rfl) (by kernel_rfl) (by kernel_rfl) (fun _ _ _ h => h) (Or.inl ⟨by rfl, ?hyn1⟩) hHeld ?_
            case hyn1 => (intro w hSw; (try dsimp only at hSw); go_simp; (try with_reducible rfl))
            (try simp only [Act.put, List.setIfInBounds_toArray, List.set_cons_zero, List.set_cons_succ])
            refine wpAnyH_take (i := 1) (oi := { dst := some 62, op := Op.move (Operand.tmp 7), type := 26, pos := "law.go:119", after := #[], guard := none }) (v := ?vn2) rfl (by kernel_rfl) (by kernel_rfl) (by kernel_rfl) (fun _ _ _ h => h) (Or.inl ⟨by rfl, ?hyn2⟩) hHeld ?_
            case hyn2 => (intro w hSw; (try dsimp only at hSw); go_simp; (try with_reducible rfl))
            (try simp only [Act.put, List.setIfInBounds_toArray, List.set_cons_zero, List.set_cons_succ])
            refine wpAnyH_take (i := 3) (oi := { dst := some 64, op := Op.move (Operand.tmp 9), type := 4, pos := "law.go:119", after := #[], guard := none }) (v := ?vn3) rfl (by kernel_rfl) (by kernel_rfl) (by kernel_rfl) (fun _ _ _ h => h) (Or.inl ⟨by rfl, ?hyn3⟩) hHeld ?_
            case hyn3 => (intro w hSw; (try dsimp only at hSw); go_simp; (try with_reducible rfl))
            (try simp only [Act.put, List.setIfInBounds_toArray, List.set_cons_zero, List.set_cons_succ])
            refine wpAnyH_ready (rs := [2]) (by kernel_rfl) (by simp) ?_
            refine AllReadyH.cons (o := { dst := some 63, op := Op.call { callee := Callee.value (Operand.func 10), args := #[Operand.tmp 61, Operand.tmp 62], argTypes := #[26, 26] }, type := 4, pos := "law.go:119", after := #[{ on := 0, ground := Ground.data }, { on := 1, ground := Ground.data }], guard := none }) rfl (fun K hK => ?_) ?_
            go_simp; refine (SW.out _ (SX.out.below hHeld) (SY.out.below hHeld)).mono ?_; rintro e ws ⟨rfl, rfl⟩
            refine hK.out _ _ (hHeld) (fun hHeld => ?_)
            clear hK K
            (try simp only [List.setIfInBounds_toArray, List.set_cons_zero, List.set_cons_succ])
            refine wpAnyH_take (i := 4) (oi := { dst := some 65, op := Op.binOp BinOp.eql 4 (Operand.tmp 63) (Operand.tmp 64) 4, type := 4, pos := "law.go:119", after := #[{ on := 2, ground := Ground.data }, { on := 3, ground := Ground.data }], guard := none }) (v := ?vn4) rfl (by kernel_rfl) (by kernel_rfl) (by kernel_rfl) (fun _ _ _ h => h) (Or.inl ⟨by rfl, ?hyn4⟩) hHeld ?_
            case hyn4 => (intro w hSw; (try dsimp only at hSw); go_simp; (try with_reducible rfl))
            (try simp only [Act.put, List.setIfInBounds_toArray, List.set_cons_zero, List.set_cons_succ])
            refine wpAnyH_take (i := 5) (oi := { dst := some 66, op := Op.move (Operand.tmp 65), type := 4, pos := "law.go:119", after := #[{ on := 4, ground := Ground.data }, { on := 2, ground := Ground.chain }], guard := none }) (v := ?vn5) rfl (by kernel_rfl) (by kernel_rfl) (by kernel_rfl) (fun _ _ _ h => h) (Or.inl ⟨by rfl, ?hyn5⟩) hHeld ?_
            case hyn5 => (intro w hSw; (try dsimp only at hSw); go_simp; (try with_reducible rfl))
            (try simp only [Act.put, List.setIfInBounds_toArray, List.set_cons_zero, List.set_cons_succ])
            refine wpAnyH_take (i := 6) (oi := { dst := some 67, op := Op.move (Operand.tmp 9), type := 4, pos := "law.go:119", after := #[{ on := 5, ground := Ground.guard }], guard := some (5, true) }) (v := ?vn6) rfl (by kernel_rfl) (by kernel_rfl) (by kernel_rfl) (fun _ _ _ h => h) (Or.inl ⟨by rfl, ?hyn6⟩) hHeld ?_
            case hyn6 => (intro w hSw; (try dsimp only at hSw); go_simp; (try with_reducible rfl))
            (try simp only [Act.put, List.setIfInBounds_toArray, List.set_cons_zero, List.set_cons_succ])
            refine wpAnyH_take (i := 7) (oi := { dst := some 68, op := Op.unOp UnOp.not 4 (Operand.tmp 67), type := 4, pos := "law.go:119", after := #[{ on := 6, ground := Ground.data }, { on := 5, ground := Ground.guard }], guard := some (5, true) }) (v := ?vn7) rfl (by kernel_rfl) (by kernel_rfl) (by kernel_rfl) (fun _ _ _ h => h) (Or.inl ⟨by rfl, ?hyn7⟩) hHeld ?_
            case hyn7 => (intro w hSw; (try dsimp only at hSw); go_simp; (try with_reducible rfl))
            (try simp only [Act.put, List.setIfInBounds_toArray, List.set_cons_zero, List.set_cons_succ])
            refine wpAnyH_take (i := 8) (oi := { dst := some 69, op := Op.move (Operand.tmp 68), type := 4, pos := "law.go:119", after := #[{ on := 7, ground := Ground.data }, { on := 5, ground := Ground.chain }, { on := 5, ground := Ground.guard }], guard := some (5, true) }) (v := ?vn8) rfl (by kernel_rfl) (by kernel_rfl) (by kernel_rfl) (fun _ _ _ h => h) (Or.inl ⟨by rfl, ?hyn8⟩) hHeld ?_
            case hyn8 => (intro w hSw; (try dsimp only at hSw); go_simp; (try with_reducible rfl))
            (try simp only [Act.put, List.setIfInBounds_toArray, List.set_cons_zero, List.set_cons_succ])
            refine wpAnyH_take (i := 9) (oi := { dst := some 70, op := Op.load 28 (Operand.tmp 2), type := 28, pos := "law.go:119", after := #[{ on := 8, ground := Ground.guard }], guard := some (8, false) }) (v := undef) rfl (by kernel_rfl) (by kernel_rfl) (by kernel_rfl) (fun _ _ _ h => h) (Or.inr ⟨by rfl, rfl⟩) hHeld ?_
            (try simp only [Act.put, List.setIfInBounds_toArray, List.set_cons_zero, List.set_cons_succ])
            refine wpAnyH_take (i := 10) (oi := { dst := some 71, op := Op.call { callee := Callee.value (Operand.func 7), args := #[Operand.tmp 70], argTypes := #[28] }, type := 23, pos := "law.go:119", after := #[{ on := 9, ground := Ground.data }, { on := 8, ground := Ground.chain }, { on := 8, ground := Ground.guard }], guard := some (8, false) }) (v := undef) rfl (by kernel_rfl) (by kernel_rfl) (by kernel_rfl) (fun _ _ _ h => h) (Or.inr ⟨by rfl, rfl⟩) hHeld ?_
            (try simp only [Act.put, List.setIfInBounds_toArray, List.set_cons_zero, List.set_cons_succ])
            refine wpAnyH_take (i := 11) (oi := { dst := some 72, op := Op.load 28 (Operand.tmp 3), type := 28, pos := "law.go:119", after := #[{ on := 8, ground := Ground.guard }], guard := some (8, false) }) (v := undef) rfl (by kernel_rfl) (by kernel_rfl) (by kernel_rfl) (fun _ _ _ h => h) (Or.inr ⟨by rfl, rfl⟩) hHeld ?_
            (try simp only [Act.put, List.setIfInBounds_toArray, List.set_cons_zero, List.set_cons_succ])
            refine wpAnyH_take (i := 12) (oi := { dst := some 73, op := Op.call { callee := Callee.value (Operand.func 7), args := #[Operand.tmp 72], argTypes := #[28] }, type := 23, pos := "law.go:119", after := #[{ on := 11, ground := Ground.data }, { on := 10, ground := Ground.chain }, { on := 8, ground := Ground.guard }], guard := some (8, false) }) (v := undef) rfl (by kernel_rfl) (by kernel_rfl) (by kernel_rfl) (fun _ _ _ h => h) (Or.inr ⟨by rfl, rfl⟩) hHeld ?_
            (try simp only [Act.put, List.setIfInBounds_toArray, List.set_cons_zero, List.set_cons_succ])
            refine wpAnyH_take (i := 13) (oi := { dst := some 74, op := Op.binOp BinOp.eql 23 (Operand.tmp 71) (Operand.tmp 73) 23, type := 4, pos := "law.go:119", after := #[{ on := 10, ground := Ground.data }, { on := 12, ground := Ground.data }, { on := 8, ground := Ground.guard }], guard := some (8, false) }) (v := undef) rfl (by kernel_rfl) (by kernel_rfl) (by kernel_rfl) (fun _ _ _ h => h) (Or.inr ⟨by rfl, rfl⟩) hHeld ?_
            (try simp only [Act.put, List.setIfInBounds_toArray, List.set_cons_zero, List.set_cons_succ])
            refine wpAnyH_take (i := 14) (oi := { dst := some 75, op := Op.pick (Operand.tmp 69) (Operand.const (Value.bool true)) (Operand.tmp 74), type := 4, pos := "law.go:119", after := #[{ on := 8, ground := Ground.data }, { on := 13, ground := Ground.data }, { on := 5, ground := Ground.guard }], guard := some (5, true) }) (v := ?vn9) rfl (by kernel_rfl) (by kernel_rfl) (by kernel_rfl) (fun _ _ _ h => h) (Or.inl ⟨by rfl, ?hyn9⟩) hHeld ?_
            case hyn9 => (intro w hSw; (try dsimp only at hSw); go_simp; (try with_reducible rfl))
            (try simp only [Act.put, List.setIfInBounds_toArray, List.set_cons_zero, List.set_cons_succ])
            refine wpAnyH_take (i := 15) (oi := { dst := some 76, op := Op.pick (Operand.tmp 66) (Operand.tmp 75) (Operand.const (Value.bool false)), type := 4, pos := "law.go:119", after := #[{ on := 5, ground := Ground.data }, { on := 14, ground := Ground.data }], guard := none }) (v := ?vn10) rfl (by kernel_rfl) (by kernel_rfl) (by kernel_rfl) (fun _ _ _ h => h) (Or.inl ⟨by rfl, ?hyn10⟩) hHeld ?_
            case hyn10 => (intro w hSw; (try dsimp only at hSw); go_simp; (try with_reducible rfl))
            (try simp only [Act.put, List.setIfInBounds_toArray, List.set_cons_zero, List.set_cons_succ])
            refine wpAnyH_take (i := 16) (oi := { dst := some 4, op := Op.assign (Operand.tmp 76), type := 4, pos := "law.go:119", after := #[{ on := 15, ground := Ground.data }, { on := 12, ground := Ground.chain }, { on := 0, ground := Ground.phase }, { on := 1, ground := Ground.phase }, { on := 2, ground := Ground.phase }, { on := 3, ground := Ground.phase }, { on := 4, ground := Ground.phase }, { on := 5, ground := Ground.phase }, { on := 6, ground := Ground.phase }, { on := 7, ground := Ground.phase }, { on := 8, ground := Ground.phase }, { on := 9, ground := Ground.phase }, { on := 10, ground := Ground.phase }, { on := 11, ground := Ground.phase }, { on := 12, ground := Ground.phase }, { on := 13, ground := Ground.phase }, { on := 14, ground := Ground.phase }, { on := 15, ground := Ground.phase }], guard := none }) (v := ?vn11) rfl (by kernel_rfl) (by kernel_rfl) (by kernel_rfl) (fun _ _ _ h => h) (Or.inl ⟨by rfl, ?hyn11⟩) hHeld ?_
            case hyn11 => (intro w hSw; (try dsimp only at hSw); go_simp; (try with_reducible rfl))
            (try simp only [Act.put, List.setIfInBounds_toArray, List.set_cons_zero, List.set_cons_succ])
            refine wpAnyH_done (by kernel_rfl) ?_ _
            rotate_left
            exact AllReadyH.nil
            all_goals
              have Bf := hid (Bc.out.trans (hHeld.mono hwc))
              clear hHeld
              go_wp2
              go_ret
              exact ⟨rfl, hPA ▸ Bf.out⟩
          · have hgk := HR.out.1 rfl
            have e2 : ∀ w, (binOp .eql 23 (hv (idG g)) (hv (idG k))).run Tryd.prog w = .ok (.bool true) w := fun w => by
              rw [← hgk]
              have := eql_hv (w := w) (idG_ok g).1 (idG_ok g).1 (idG_ok g).2 (idG_ok g).2
              rw [decide_eq_true rfl] at this; exact this
            clear hgk
            go_upto_region 10 with (fail)
            refine wp_region_held_drew (S := fun w' => Below wc.heap.size wc w') (by kernel_rfl) ((Below.refl _ _).drew) (fun hHeld => ?_)
            try simp only [List.size_toArray, List.length_cons, List.length_nil, Nat.reduceAdd, Array.replicate_succ, Array.replicate_zero, List.push_toArray, List.nil_append, List.cons_append]
            refine wpAnyH_take (i := 0) (oi := { dst := some 61, op := Op.move (Operand.tmp 5), type := 26, pos := "law.go:119", after := #[], guard := none }) (v := ?vy1) rfl (by kernel_rfl) (by kernel_rfl) (by kernel_rfl) (fun _ _ _ h => h) (Or.inl ⟨by rfl, ?hyy1⟩) hHeld ?_
            case hyy1 => (intro w hSw; (try dsimp only at hSw); go_simp; (try with_reducible rfl))
            (try simp only [Act.put, List.setIfInBounds_toArray, List.set_cons_zero, List.set_cons_succ])
            refine wpAnyH_take (i := 1) (oi := { dst := some 62, op := Op.move (Operand.tmp 7), type := 26, pos := "law.go:119", after := #[], guard := none }) (v := ?vy2) rfl (by kernel_rfl) (by kernel_rfl) (by kernel_rfl) (fun _ _ _ h => h) (Or.inl ⟨by rfl, ?hyy2⟩) hHeld ?_
            case hyy2 => (intro w hSw; (try dsimp only at hSw); go_simp; (try with_reducible rfl))
            (try simp only [Act.put, List.setIfInBounds_toArray, List.set_cons_zero, List.set_cons_succ])
            refine wpAnyH_take (i := 3) (oi := { dst := some 64, op := Op.move (Operand.tmp 9), type := 4, pos := "law.go:119", after := #[], guard := none }) (v := ?vy3) rfl (by kernel_rfl) (by kernel_rfl) (by kernel_rfl) (fun _ _ _ h => h) (Or.inl ⟨by rfl, ?hyy3⟩) hHeld ?_
            case hyy3 => (intro w hSw; (try dsimp only at hSw); go_simp; (try with_reducible rfl))
            (try simp only [Act.put, List.setIfInBounds_toArray, List.set_cons_zero, List.set_cons_succ])
            refine wpAnyH_ready (rs := [2]) (by kernel_rfl) (by simp) ?_
            refine AllReadyH.cons (o := { dst := some 63, op := Op.call { callee := Callee.value (Operand.func 10), args := #[Operand.tmp 61, Operand.tmp 62], argTypes := #[26, 26] }, type := 4, pos := "law.go:119", after := #[{ on := 0, ground := Ground.data }, { on := 1, ground := Ground.data }], guard := none }) rfl (fun K hK => ?_) ?_
            go_simp; refine (SW.out _ (SX.out.below hHeld) (SY.out.below hHeld)).mono ?_; rintro e ws ⟨rfl, rfl⟩
            refine hK.out _ _ (hHeld) (fun hHeld => ?_)
            clear hK K
            (try simp only [List.setIfInBounds_toArray, List.set_cons_zero, List.set_cons_succ])
            refine wpAnyH_take (i := 4) (oi := { dst := some 65, op := Op.binOp BinOp.eql 4 (Operand.tmp 63) (Operand.tmp 64) 4, type := 4, pos := "law.go:119", after := #[{ on := 2, ground := Ground.data }, { on := 3, ground := Ground.data }], guard := none }) (v := ?vy4) rfl (by kernel_rfl) (by kernel_rfl) (by kernel_rfl) (fun _ _ _ h => h) (Or.inl ⟨by rfl, ?hyy4⟩) hHeld ?_
            case hyy4 => (intro w hSw; (try dsimp only at hSw); go_simp; (try with_reducible rfl))
            (try simp only [Act.put, List.setIfInBounds_toArray, List.set_cons_zero, List.set_cons_succ])
            refine wpAnyH_take (i := 5) (oi := { dst := some 66, op := Op.move (Operand.tmp 65), type := 4, pos := "law.go:119", after := #[{ on := 4, ground := Ground.data }, { on := 2, ground := Ground.chain }], guard := none }) (v := ?vy5) rfl (by kernel_rfl) (by kernel_rfl) (by kernel_rfl) (fun _ _ _ h => h) (Or.inl ⟨by rfl, ?hyy5⟩) hHeld ?_
            case hyy5 => (intro w hSw; (try dsimp only at hSw); go_simp; (try with_reducible rfl))
            (try simp only [Act.put, List.setIfInBounds_toArray, List.set_cons_zero, List.set_cons_succ])
            refine wpAnyH_take (i := 6) (oi := { dst := some 67, op := Op.move (Operand.tmp 9), type := 4, pos := "law.go:119", after := #[{ on := 5, ground := Ground.guard }], guard := some (5, true) }) (v := ?vy6) rfl (by kernel_rfl) (by kernel_rfl) (by kernel_rfl) (fun _ _ _ h => h) (Or.inl ⟨by rfl, ?hyy6⟩) hHeld ?_
            case hyy6 => (intro w hSw; (try dsimp only at hSw); go_simp; (try with_reducible rfl))
            (try simp only [Act.put, List.setIfInBounds_toArray, List.set_cons_zero, List.set_cons_succ])
            refine wpAnyH_take (i := 7) (oi := { dst := some 68, op := Op.unOp UnOp.not 4 (Operand.tmp 67), type := 4, pos := "law.go:119", after := #[{ on := 6, ground := Ground.data }, { on := 5, ground := Ground.guard }], guard := some (5, true) }) (v := ?vy7) rfl (by kernel_rfl) (by kernel_rfl) (by kernel_rfl) (fun _ _ _ h => h) (Or.inl ⟨by rfl, ?hyy7⟩) hHeld ?_
            case hyy7 => (intro w hSw; (try dsimp only at hSw); go_simp; (try with_reducible rfl))
            (try simp only [Act.put, List.setIfInBounds_toArray, List.set_cons_zero, List.set_cons_succ])
            refine wpAnyH_take (i := 8) (oi := { dst := some 69, op := Op.move (Operand.tmp 68), type := 4, pos := "law.go:119", after := #[{ on := 7, ground := Ground.data }, { on := 5, ground := Ground.chain }, { on := 5, ground := Ground.guard }], guard := some (5, true) }) (v := ?vy8) rfl (by kernel_rfl) (by kernel_rfl) (by kernel_rfl) (fun _ _ _ h => h) (Or.inl ⟨by rfl, ?hyy8⟩) hHeld ?_
            case hyy8 => (intro w hSw; (try dsimp only at hSw); go_simp; (try with_reducible rfl))
            (try simp only [Act.put, List.setIfInBounds_toArray, List.set_cons_zero, List.set_cons_succ])
            refine' wpAnyH_take (i := 9) (oi := { dst := some 70, op := Op.load 28 (Operand.tmp 2), type := 28, pos := "law.go:119", after := #[{ on := 8, ground := Ground.guard }], guard := some (8, false) }) (v := _) rfl (by kernel_rfl) (by kernel_rfl) (by kernel_rfl) (fun _ _ _ h => h) (yieldsIf_load_mid (by rfl) _ _ rfl PA 0 rfl (g.cells a c) _ (fun _ h => range_keep h RAy.out) Tryd.underlying28 rfl hiG.out) hHeld ?_
            (try simp only [Act.put, List.setIfInBounds_toArray, List.set_cons_zero, List.set_cons_succ])
            refine' wpAnyH_take (i := 11) (oi := { dst := some 72, op := Op.load 28 (Operand.tmp 3), type := 28, pos := "law.go:119", after := #[{ on := 8, ground := Ground.guard }], guard := some (8, false) }) (v := _) rfl (by kernel_rfl) (by kernel_rfl) (by kernel_rfl) (fun _ _ _ h => h) (yieldsIf_load_mid (by rfl) _ _ rfl PB 0 rfl (k.cells a' c') _ (fun _ h => range_keep h RBy.out) Tryd.underlying28 rfl hiK.out) hHeld ?_
            (try simp only [Act.put, List.setIfInBounds_toArray, List.set_cons_zero, List.set_cons_succ])
            refine wpAnyH_ready (rs := [10]) (by kernel_rfl) (by simp) ?_
            refine AllReadyH.cons (o := { dst := some 71, op := Op.call { callee := Callee.value (Operand.func 7), args := #[Operand.tmp 70], argTypes := #[28] }, type := 23, pos := "law.go:119", after := #[{ on := 9, ground := Ground.data }, { on := 8, ground := Ground.chain }, { on := 8, ground := Ground.guard }], guard := some (8, false) }) rfl (fun K hK => ?_) ?_
            go_simp; refine (gid_walk g a c _ (HGy.out.below hHeld) (HTy.out.below hHeld)).mono ?_; rintro e wi ⟨rfl, bi⟩; have BI := hid bi; clear bi
            refine hK.out _ _ (by first | exact hHeld.trans (BI.out.mono hHeld.size) | exact BI.out) (fun hHeld => ?_)
            clear hK K
            (try simp only [List.setIfInBounds_toArray, List.set_cons_zero, List.set_cons_succ])
            refine wpAnyH_ready (rs := [12]) (by kernel_rfl) (by simp) ?_
            refine AllReadyH.cons (o := { dst := some 73, op := Op.call { callee := Callee.value (Operand.func 7), args := #[Operand.tmp 72], argTypes := #[28] }, type := 23, pos := "law.go:119", after := #[{ on := 11, ground := Ground.data }, { on := 10, ground := Ground.chain }, { on := 8, ground := Ground.guard }], guard := some (8, false) }) rfl (fun K hK => ?_) ?_
            go_simp; refine (gid_walk k a' c' _ (HKy.out.below hHeld) (HTy.out.below hHeld)).mono ?_; rintro e wj ⟨rfl, bj⟩; have BJ := hid bj; clear bj
            refine hK.out _ _ (by first | exact hHeld.trans (BJ.out.mono hHeld.size) | exact BJ.out) (fun hHeld => ?_)
            clear hK K
            (try simp only [List.setIfInBounds_toArray, List.set_cons_zero, List.set_cons_succ])
            refine wpAnyH_take (i := 13) (oi := { dst := some 74, op := Op.binOp BinOp.eql 23 (Operand.tmp 71) (Operand.tmp 73) 23, type := 4, pos := "law.go:119", after := #[{ on := 10, ground := Ground.data }, { on := 12, ground := Ground.data }, { on := 8, ground := Ground.guard }], guard := some (8, false) }) (v := ?vy9) rfl (by kernel_rfl) (by kernel_rfl) (by kernel_rfl) (fun _ _ _ h => h) (Or.inl ⟨by rfl, ?hyy9⟩) hHeld ?_
            case hyy9 => (intro w hSw; (try dsimp only at hSw); go_simp; (try with_reducible rfl))
            (try simp only [Act.put, List.setIfInBounds_toArray, List.set_cons_zero, List.set_cons_succ])
            refine wpAnyH_take (i := 14) (oi := { dst := some 75, op := Op.pick (Operand.tmp 69) (Operand.const (Value.bool true)) (Operand.tmp 74), type := 4, pos := "law.go:119", after := #[{ on := 8, ground := Ground.data }, { on := 13, ground := Ground.data }, { on := 5, ground := Ground.guard }], guard := some (5, true) }) (v := ?vy10) rfl (by kernel_rfl) (by kernel_rfl) (by kernel_rfl) (fun _ _ _ h => h) (Or.inl ⟨by rfl, ?hyy10⟩) hHeld ?_
            case hyy10 => (intro w hSw; (try dsimp only at hSw); go_simp; (try with_reducible rfl))
            (try simp only [Act.put, List.setIfInBounds_toArray, List.set_cons_zero, List.set_cons_succ])
            refine wpAnyH_take (i := 15) (oi := { dst := some 76, op := Op.pick (Operand.tmp 66) (Operand.tmp 75) (Operand.const (Value.bool false)), type := 4, pos := "law.go:119", after := #[{ on := 5, ground := Ground.data }, { on := 14, ground := Ground.data }], guard := none }) (v := ?vy11) rfl (by kernel_rfl) (by kernel_rfl) (by kernel_rfl) (fun _ _ _ h => h) (Or.inl ⟨by rfl, ?hyy11⟩) hHeld ?_
            case hyy11 => (intro w hSw; (try dsimp only at hSw); go_simp; (try with_reducible rfl))
            (try simp only [Act.put, List.setIfInBounds_toArray, List.set_cons_zero, List.set_cons_succ])
            refine wpAnyH_take (i := 16) (oi := { dst := some 4, op := Op.assign (Operand.tmp 76), type := 4, pos := "law.go:119", after := #[{ on := 15, ground := Ground.data }, { on := 12, ground := Ground.chain }, { on := 0, ground := Ground.phase }, { on := 1, ground := Ground.phase }, { on := 2, ground := Ground.phase }, { on := 3, ground := Ground.phase }, { on := 4, ground := Ground.phase }, { on := 5, ground := Ground.phase }, { on := 6, ground := Ground.phase }, { on := 7, ground := Ground.phase }, { on := 8, ground := Ground.phase }, { on := 9, ground := Ground.phase }, { on := 10, ground := Ground.phase }, { on := 11, ground := Ground.phase }, { on := 12, ground := Ground.phase }, { on := 13, ground := Ground.phase }, { on := 14, ground := Ground.phase }, { on := 15, ground := Ground.phase }], guard := none }) (v := ?vy12) rfl (by kernel_rfl) (by kernel_rfl) (by kernel_rfl) (fun _ _ _ h => h) (Or.inl ⟨by rfl, ?hyy12⟩) hHeld ?_
            case hyy12 => (intro w hSw; (try dsimp only at hSw); go_simp; (try with_reducible rfl))
            (try simp only [Act.put, List.setIfInBounds_toArray, List.set_cons_zero, List.set_cons_succ])
            refine wpAnyH_done (by kernel_rfl) ?_ _
            rotate_left
            exact AllReadyH.nil
            exact AllReadyH.nil
            exact AllReadyH.nil
            all_goals
              have Bf := hid (Bc.out.trans (hHeld.mono hwc))
              clear hHeld e1 e2
              go_wp2
              go_ret
              exact ⟨rfl, hPA ▸ Bf.out⟩
      · have hkc' := hkc
        have hidk : idG k = pzero := by unfold idG; rw [if_neg (by rw [← HCK.out]; exact hkc)]
        have t5 : ((ck : Int) == 0) = false := by rw [beq_eq_false_iff_ne]; omega
        have t6 : ((ck : Int) != 0) = true := by rw [bne_iff_ne]; omega
        have t7 : (ck == 0) = false := by rw [beq_eq_false_iff_ne]; omega
        have KI := fun w h1 h2 => gid_walk k a' c' w h1 h2
        rw [hidk] at KI
        have KI := hid KI
        have e1 := idz_guard pzero
        have e2 := idz_eql
        have rB := row_range KPz.out
        subst hgc
        clear hkc hidk t3 t4
        go_wp2_with (refine wpList_load_midG rfl _ _ rfl PB 0 rfl (k.cells a' c') _ rB Tryd.underlying28 rfl hiK.out ?_)
        refine (KI.out _ HKz.out (HT.out.below (hPA ▸ Bz.out))).mono ?_
        rintro e wi ⟨rfl, bi⟩
        have Bi := hid (Bz.out.trans (bi.mono hwz))
        clear bi rB
        go_wp2
        go_ret
        exact ⟨rfl, hPA ▸ Bi.out⟩
    · have hidg : idG g = pzero := by unfold idG; rw [if_neg (by rw [← HCG.out]; exact hgc)]
      have t3 : ((cg : Int) == 0) = false := by rw [beq_eq_false_iff_ne]; omega
      have t4 : ((cg : Int) != 0) = true := by rw [bne_iff_ne]; omega
      have t4' : (cg == 0) = false := by rw [beq_eq_false_iff_ne]; omega
      have GI := fun w h1 h2 => gid_walk g a c w h1 h2
      rw [hidg] at GI
      have GI := hid GI
      have e1 := idz_guard pzero
      have e2 := idz_eql
      have rA := row_range GPz.out
      by_cases hkc : ck = 0
      · subst hkc
        clear hidg
        go_wp2_with (refine wpList_load_midG rfl _ _ rfl PA 0 rfl (g.cells a c) _ rA Tryd.underlying28 rfl hiG.out ?_)
        refine (GI.out _ HGz.out (HT.out.below (hPA ▸ Bz.out))).mono ?_
        rintro e wi ⟨rfl, bi⟩
        have Bi := hid (Bz.out.trans (bi.mono hwz))
        clear bi rA
        go_wp2
        go_ret
        exact ⟨rfl, hPA ▸ Bi.out⟩
      · have hidk : idG k = pzero := by unfold idG; rw [if_neg (by rw [← HCK.out]; exact hkc)]
        have t5 : ((ck : Int) == 0) = false := by rw [beq_eq_false_iff_ne]; omega
        have t6 : ((ck : Int) != 0) = true := by rw [bne_iff_ne]; omega
        have t7 : (ck == 0) = false := by rw [beq_eq_false_iff_ne]; omega
        have KI := fun w h1 h2 => gid_walk k a' c' w h1 h2
        rw [hidk] at KI
        have KI := hid KI
        clear hidg hidk
        go_wp2_with (refine wpList_load_midG rfl _ _ rfl PA 0 rfl (g.cells a c) _ rA Tryd.underlying28 rfl hiG.out ?_)
        refine (GI.out _ HGz.out (HT.out.below (hPA ▸ Bz.out))).mono ?_
        rintro e wi ⟨rfl, bi⟩
        have Bi := hid (Bz.out.trans (bi.mono hwz))
        have rB := row_range (heap_keep KPz.out bi)
        have HKi := hid (HKz.out.below bi)
        have hwi : PA ≤ wi.heap.size := by have := bi.size; omega
        clear bi rA
        go_wp2_with (refine wpList_load_midG rfl _ _ rfl PB 0 rfl (k.cells a' c') _ rB Tryd.underlying28 rfl hiK.out ?_)
        refine (KI.out _ HKi.out (HT.out.below (hPA ▸ Bi.out))).mono ?_
        rintro e wj ⟨rfl, bj⟩
        have Bj := hid (Bi.out.trans (bj.mono hwi))
        clear bj rB
        go_wp2
        go_ret
        exact ⟨rfl, hPA ▸ Bj.out⟩
end Go.Proofs.YtgaidleepjkldaaDoor

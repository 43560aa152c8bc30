/- The walks of the statements AssetForm and AssetReads. -/
import Derived.Test.YtgaidleepjkldaaGenH
namespace Go.Proofs.Ytgaidleepjkldaa
open Go.RowKit

set_option maxRecDepth 100000 in
set_option maxHeartbeats 2000000 in
theorem lawForm (a : Option Addr) (n cap : Nat) (bs : List Nat) (hbs : ∀ d ∈ bs, d < 256) (hz : n * 1 ≤ 140737488351232) (w : World) (h : Sl .u8 w a n cap bs) :
    Calls Try.prog 6 #[.slice a n cap] w fun e w' => e = .returned (.bool true) ∧ Below w.heap.size w w' := by
  have HI := hid h
  have DW := fun wx hx => hid (gdec_walk a n cap bs hbs (by omega) wx hx)
  have ZV := zeroGen
  have hz67 := hid genZ_size
  have hne : ¬ (genZ 0) = #[] := by intro e; have := genZ_size; rw [e] at this; exact absurd this (by decide)
  generalize genZ 0 = Z at *
  clear h hz
  go_enter Try.func6, Try.ntmps6
  go_wp2_with fail
  refine (head_walk _).mono ?_
  rintro e w1 ⟨rfl, b1⟩
  by_cases hn : n ≤ 500
  · have t1 : decide ((n : Int) > 500) = false := by rw [decide_eq_false_iff_not]; omega
    go_wp2_with fail
    refine (DW _ (HI.out.below b1)).out.mono ?_
    rintro e w2 ⟨ag, cg, rfl, gd, b2⟩
    have hb := @decG_bad bs
    have hk := decG_ok hbs
    generalize decG bs = p at *
    obtain ⟨g, er⟩ := p
    (try simp only at gd); (try simp only at hb); (try simp only at hk); (try simp only)
    have B2 := hid (bstep b1 b2)
    have hCl := Gen.len (g := g) ag cg gd.tl gd.ml
    have A2 := hid (heap_alloc_new w2 (.cells Z 28))
    have L2 := laid w2 Z (g.cells ag cg).toArray 28
    have B3 := hid (bstep B2.out L2.2)
    have r2 := row_range L2.1
    obtain ⟨_, e2, e3, _⟩ := Gen.at' ag cg gd.tl gd.ml
    have c2 := gen_cell r2 e2
    have c3 := gen_cell r2 e3
    have gd3 := gd.below L2.2
    have S3 := (HI.out.below b1).below (b2.mono (Nat.le_refl _)) |>.below L2.2
    have hiC := hid (show (Try.prog.info? 28).map (·.size) = some (g.cells ag cg).toArray.size by rw [List.size_toArray, hCl]; exact infoGen)
    have hiCl := hid (show (Try.prog.info? 28).map (·.size) = some (g.cells ag cg).length by rw [hCl]; exact infoGen)
    have hzC := hid (show Z.size = (g.cells ag cg).toArray.size from hz67.out.trans (by rw [List.size_toArray, hCl]))
    have hoC := hid (all_oneCell_toArray (Gen.one g ag cg))
    by_cases he : er = 0
    · subst he
      obtain ⟨hck, hby⟩ := hk rfl
      have EW := fun wx hx => hid (genc_walk g ag cg wx hx)
      have CW := fun wx => hid (check_walk g ag cg gd.tl gd.ml wx)
      unfold GEnc at EW
      unfold NumB at CW
      rw [hck, if_pos rfl, hby] at EW
      rw [hck] at CW
      clear hb hk hck hby e2 e3 gd b1 b2 B2 hCl
      generalize g.cells ag cg = CS at *
      go_wp2_with (first | refine wpList_store_row rfl _ _ _ rfl w2.heap.size CS.toArray rfl rfl _ _ A2.out hiC.out hzC.out hoC.out ?_ | refine wpList_load_mid rfl _ _ rfl w2.heap.size 0 rfl CS _ r2 Try.underlying28 rfl hiCl.out ?_)
      refine (EW _ gd3).out.mono ?_
      rintro e w4 ⟨v, rfl, ⟨a4, c4, rfl, s4⟩, b4⟩
      have B4 := hid (bstep B3.out b4)
      have r4 := range_keep b4 r2
      have S4 := S3.below b4
      rw [HI.out.len] at s4 ⊢
      have SX := hid (same_self a a4 n cap n c4 bs hbs w4 S4 s4)
      clear B3 b4 r2 S3 S4 s4 c2 c3 gd3 A2 EW
      go_wp2_with (first | refine wpList_load_midG rfl _ _ rfl w2.heap.size 0 rfl CS _ r4 Try.underlying28 rfl hiCl.out ?_ | (go_at_call 10; refine SX.out.mono ?_; rintro e wS ⟨rfl, rfl⟩) | (go_at_call 20; refine (CW _).out.mono ?_; rintro e wS ⟨rfl, bS⟩; have BS := bstep B4.out bS))
      go_ret
      exact ⟨rfl, BS⟩
    · have hg := hb he

      subst hg
      have te : ((er : Int) != 0) = true := by simp; omega
      have c2 : World.cell? _ ⟨w2.heap.size, 33, none⟩ = some (.slice ag 0 cg) := c2
      have c3 : World.cell? _ ⟨w2.heap.size, 66, none⟩ = some (.int .i64 0) := c3
      clear hb hk he e2 e3 gd b1 b2 B2 hCl gd3
      generalize gz.cells ag cg = CS at *
      go_wp2_with (refine wpList_store_row rfl _ _ _ rfl w2.heap.size CS.toArray rfl rfl _ _ A2.out hiC.out hzC.out hoC.out ?_)
      go_ret
      exact ⟨rfl, B3.out⟩
  · have t1 : decide ((n : Int) > 500) = true := by rw [decide_eq_true_eq]; omega
    go_wp2
    go_ret
    exact ⟨rfl, b1⟩
set_option maxRecDepth 100000 in
set_option maxHeartbeats 4000000 in
theorem lawReads (a : Option Addr) (n cap : Nat) (bs : List Nat) (hbs : ∀ d ∈ bs, d < 256) (hz : n * 1 ≤ 140737488351232) (w : World) (h : Sl .u8 w a n cap bs) :
    Calls Try.prog 5 #[.slice a n cap] w fun e w' => e = .returned (.bool true) ∧ Below w.heap.size w w' := by
  have HI := hid h
  have HL := hid h.len
  have DW := fun x c wx hx => hid (gdec_walk x n c bs hbs (by omega) wx hx)
  have RW := fun wx hx => hid (rgdec_walk a n cap bs hbs (by omega) wx hx)
  have ZV := zeroGen
  have ZR := zeroRGen
  have hz67 := hid genZ_size
  have hne : ¬ (genZ 0) = #[] := by intro e; have := genZ_size; rw [e] at this; exact absurd this (by decide)
  generalize genZ 0 = Z at *
  clear h hz
  go_enter Try.func5, Try.ntmps5
  go_wp2_with fail
  refine (head_walk _).mono ?_
  rintro e w1 ⟨rfl, b1⟩
  by_cases hn : n ≤ 500
  · have t1 : decide ((n : Int) > 500) = false := by rw [decide_eq_false_iff_not]; omega
    go_wp2_with fail
    refine (copy_walk a n cap bs (by omega) _ (HI.out.below b1)).mono ?_
    rintro e w2 ⟨v, rfl, _, o2, b2⟩
    obtain ⟨am, cm, rfl, s2⟩ := SlV.of_owns o2
    rw [HL.out] at s2 ⊢
    have B2 := bstep b1 b2
    have s2' := HI.out.below B2
    go_wp2_with fail
    refine (DW am cm _ s2).out.mono ?_
    rintro e w3 ⟨ag, cg, rfl, gd, b3⟩
    unfold GDec at RW
    clear DW
    generalize decG bs = p at *
    obtain ⟨g, er⟩ := p
    simp only at gd RW ⊢
    have hCl := fun x y => Gen.len (g := g) x y gd.tl gd.ml
    have A3 := hid (heap_alloc_new w3 (.cells Z 28))
    have L3 := laid w3 Z (g.cells ag cg).toArray 28
    have B3 := hid (bstep (bstep B2 b3) L3.2)
    have r3 := row_range L3.1
    have gd3 := gd.below L3.2
    have s3 := (s2.below b3).below L3.2
    have s3' := (s2'.below b3).below L3.2
    have hiC := hid (show (Try.prog.info? 28).map (·.size) = some (g.cells ag cg).toArray.size by rw [List.size_toArray, hCl]; exact infoGen)
    have hzC := hid (show Z.size = (g.cells ag cg).toArray.size from hz67.out.trans (by rw [List.size_toArray, hCl]))
    have hoC := hid (all_oneCell_toArray (Gen.one g ag cg))
    clear o2 b1 b2 b3 s2 s2' B2 L3
    go_wp2_with (refine wpList_store_row rfl _ _ _ rfl w3.heap.size (g.cells ag cg).toArray rfl rfl _ _ A3.out hiC.out hzC.out hoC.out ?_)
    refine (RW _ s3').out.mono ?_
    rintro e w4 ⟨ah, ch, rfl, ge, b4⟩
    have A4 := hid (heap_alloc_new w4 (.cells Z 46))
    have L4 := laid w4 Z (g.cells ah ch).toArray 46
    have B4 := hid (bstep (bstep B3.out b4) L4.2)
    have f1 := range_keep L4.2 (range_keep b4 r3)
    have f2 := row_range L4.1
    have f3 := (gd3.below b4).below L4.2
    have f4 := ge.below L4.2
    have f5 := (s3.below b4).below L4.2
    have f6 := (s3'.below b4).below L4.2
    have hiE := hid (show (Try.prog.info? 46).map (·.size) = some (g.cells ah ch).toArray.size by rw [List.size_toArray, hCl]; exact infoRGen)
    have hzE := hid (show Z.size = (g.cells ah ch).toArray.size from hz67.out.trans (by rw [List.size_toArray, hCl]))
    have hoE := hid (all_oneCell_toArray (Gen.one g ah ch))
    have hiG : (Try.prog.info? 28).map (·.size) = some (g.cells ag cg).length := by rw [hCl]; exact infoGen
    have hiR : (Try.prog.info? 46).map (·.size) = some (g.cells ah ch).length := by rw [hCl]; exact infoRGen
    have unG := Try.underlying28
    have unR := Try.underlying46
    have PW := fun wx => hid (plain_walk g ag cg gd.tl gd.ml wx)
    have RS := fun wx k1 k2 => hid (rsame_walk g ag cg ah ch wx k1 k2)
    have SS := fun wx k1 k2 => hid (same_self am a n cm n cap bs hbs wx k1 k2)
    clear r3 gd3 s3 s3' b4 ge L4 gd B3 hCl RW A3
    generalize g.cells ag cg = C1 at *
    generalize g.cells ah ch = C2 at *
    go_wp2_with (refine wpList_store_row rfl _ _ _ rfl w4.heap.size C2.toArray rfl rfl _ _ A4.out hiE.out hzE.out hoE.out ?_)
    clear A4
    generalize (w4.alloc (.cells Z 46)).setRow w4.heap.size C2.toArray = w5 at *
    generalize w3.heap.size = G4 at *
    generalize w4.heap.size = G6 at *
    have keepS : ∀ X Y : World, Below X.heap.size X Y → (X.rangeAt G4 0 C1 ∧ X.rangeAt G6 0 C2 ∧ g.good X ag cg ∧ g.good X ah ch ∧ Sl .u8 X am n cm bs ∧ Sl .u8 X a n cap bs) → (Y.rangeAt G4 0 C1 ∧ Y.rangeAt G6 0 C2 ∧ g.good Y ag cg ∧ g.good Y ah ch ∧ Sl .u8 Y am n cm bs ∧ Sl .u8 Y a n cap bs) :=
      fun X Y hb h => ⟨range_keep hb h.1, range_keep hb h.2.1, h.2.2.1.below hb, h.2.2.2.1.below hb, h.2.2.2.2.1.below hb, h.2.2.2.2.2.below hb⟩
    refine wp_region_held_drew (S := fun w' => w'.rangeAt G4 0 C1 ∧ w'.rangeAt G6 0 C2 ∧ g.good w' ag cg ∧ g.good w' ah ch ∧ Sl .u8 w' am n cm bs ∧ Sl .u8 w' a n cap bs) (by kernel_rfl) (keepS _ _ ((Below.refl _ _).drew) ⟨f1, f2, f3, f4, f5, f6⟩) (fun hHeld => ?_)
    try simp only [List.size_toArray, List.length_cons, List.length_nil, Nat.reduceAdd, Array.replicate_succ, Array.replicate_zero, List.push_toArray, List.nil_append, List.cons_append]
    refine wpAnyH_take (i := 0) (oi := { dst := some 25, op := Op.move (Operand.tmp 5), type := 33, pos := "law.go:55", after := #[], guard := none }) (v := ?v1) rfl (by kernel_rfl) (by kernel_rfl) (by kernel_rfl) (fun _ _ _ h => h) (Or.inl ⟨by rfl, ?hy1⟩) hHeld ?_
    case hy1 => (intro w hSw; (try dsimp only at hSw); go_simp; (try with_reducible rfl))
    (try simp only [Act.put, List.setIfInBounds_toArray, List.set_cons_zero, List.set_cons_succ])
    refine wpAnyH_take (i := 1) (oi := { dst := some 26, op := Op.move (Operand.tmp 7), type := 3, pos := "law.go:55", after := #[], guard := none }) (v := ?v2) rfl (by kernel_rfl) (by kernel_rfl) (by kernel_rfl) (fun _ _ _ h => h) (Or.inl ⟨by rfl, ?hy2⟩) hHeld ?_
    case hy2 => (intro w hSw; (try dsimp only at hSw); go_simp; (try with_reducible rfl))
    (try simp only [Act.put, List.setIfInBounds_toArray, List.set_cons_zero, List.set_cons_succ])
    refine wpAnyH_take (i := 2) (oi := { dst := some 27, op := Op.binOp BinOp.eql 3 (Operand.tmp 25) (Operand.tmp 26) 3, type := 4, pos := "law.go:55", after := #[{ on := 0, ground := Ground.data }, { on := 1, ground := Ground.data }], guard := none }) (v := ?v3) rfl (by kernel_rfl) (by kernel_rfl) (by kernel_rfl) (fun _ _ _ h => h) (Or.inl ⟨by rfl, ?hy3⟩) hHeld ?_
    case hy3 => (intro w hSw; (try dsimp only at hSw); go_simp; (try with_reducible rfl))
    (try simp only [Act.put, List.setIfInBounds_toArray, List.set_cons_zero, List.set_cons_succ])
    refine wpAnyH_take (i := 3) (oi := { dst := some 28, op := Op.move (Operand.tmp 27), type := 4, pos := "law.go:55", after := #[{ on := 2, ground := Ground.data }], guard := none }) (v := ?v4) rfl (by kernel_rfl) (by kernel_rfl) (by kernel_rfl) (fun _ _ _ h => h) (Or.inl ⟨by rfl, ?hy4⟩) hHeld ?_
    case hy4 => (intro w hSw; (try dsimp only at hSw); go_simp; (try with_reducible rfl))
    (try simp only [Act.put, List.setIfInBounds_toArray, List.set_cons_zero, List.set_cons_succ])
    refine' wpAnyH_take (i := 4) (oi := { dst := some 29, op := Op.load 28 (Operand.tmp 4), type := 28, pos := "law.go:55", after := #[{ on := 3, ground := Ground.guard }], guard := some (3, true) }) (v := _) rfl (by kernel_rfl) (by kernel_rfl) (by kernel_rfl) (fun _ _ _ h => h) (yieldsIf_load_mid (by rfl) _ _ rfl G4 0 rfl C1 _ (fun _ h => h.1) unG rfl hiG) hHeld ?_
    (try simp only [Act.put, List.setIfInBounds_toArray, List.set_cons_zero, List.set_cons_succ])
    refine' wpAnyH_take (i := 6) (oi := { dst := some 31, op := Op.load 46 (Operand.tmp 6), type := 46, pos := "law.go:55", after := #[{ on := 3, ground := Ground.guard }], guard := some (3, true) }) (v := _) rfl (by kernel_rfl) (by kernel_rfl) (by kernel_rfl) (fun _ _ _ h => h) (yieldsIf_load_mid (by rfl) _ _ rfl G6 0 rfl C2 _ (fun _ h => h.2.1) unR rfl hiR) hHeld ?_
    (try simp only [Act.put, List.setIfInBounds_toArray, List.set_cons_zero, List.set_cons_succ])
    refine wpAnyH_ready (rs := [5]) (by kernel_rfl) (by simp) ?_
    refine AllReadyH.cons (o := { dst := some 30, op := Op.call { callee := Callee.value (Operand.func 18), args := #[Operand.tmp 29], argTypes := #[28] }, type := 46, pos := "law.go:55", after := #[{ on := 4, ground := Ground.data }, { on := 3, ground := Ground.chain }, { on := 3, ground := Ground.guard }], guard := some (3, true) }) rfl (fun K hK => ?_) ?_
    go_simp; refine (PW _).out.mono ?_; rintro e wA ⟨rfl, bA⟩
    refine hK.out _ _ (keepS _ _ bA hHeld) (fun hHeld => ?_)
    clear hK K
    (try simp only [List.setIfInBounds_toArray, List.set_cons_zero, List.set_cons_succ])
    refine wpAnyH_ready (rs := [7]) (by kernel_rfl) (by simp) ?_
    refine AllReadyH.cons (o := { dst := some 32, op := Op.call { callee := Callee.value (Operand.func 17), args := #[Operand.tmp 30, Operand.tmp 31], argTypes := #[46, 46] }, type := 4, pos := "law.go:55", after := #[{ on := 5, ground := Ground.data }, { on := 6, ground := Ground.data }, { on := 5, ground := Ground.chain }, { on := 3, ground := Ground.guard }], guard := some (3, true) }) rfl (fun K hK => ?_) ?_
    go_simp; refine (RS _ hHeld.2.2.1 hHeld.2.2.2.1).out.mono ?_; rintro e wB ⟨rfl, bB⟩
    refine hK.out _ _ (keepS _ _ bB hHeld) (fun hHeld => ?_)
    clear hK K
    (try simp only [List.setIfInBounds_toArray, List.set_cons_zero, List.set_cons_succ])
    refine wpAnyH_take (i := 8) (oi := { dst := some 33, op := Op.pick (Operand.tmp 28) (Operand.tmp 32) (Operand.const (Value.bool false)), type := 4, pos := "law.go:55", after := #[{ on := 3, ground := Ground.data }, { on := 7, ground := Ground.data }], guard := none }) (v := ?v5) rfl (by kernel_rfl) (by kernel_rfl) (by kernel_rfl) (fun _ _ _ h => h) (Or.inl ⟨by rfl, ?hy5⟩) hHeld ?_
    case hy5 => (intro w hSw; (try dsimp only at hSw); go_simp; (try with_reducible rfl))
    (try simp only [Act.put, List.setIfInBounds_toArray, List.set_cons_zero, List.set_cons_succ])
    refine wpAnyH_take (i := 9) (oi := { dst := some 34, op := Op.move (Operand.tmp 33), type := 4, pos := "law.go:55", after := #[{ on := 8, ground := Ground.data }, { on := 7, ground := Ground.chain }], guard := none }) (v := ?v6) rfl (by kernel_rfl) (by kernel_rfl) (by kernel_rfl) (fun _ _ _ h => h) (Or.inl ⟨by rfl, ?hy6⟩) hHeld ?_
    case hy6 => (intro w hSw; (try dsimp only at hSw); go_simp; (try with_reducible rfl))
    (try simp only [Act.put, List.setIfInBounds_toArray, List.set_cons_zero, List.set_cons_succ])
    refine wpAnyH_take (i := 10) (oi := { dst := some 35, op := Op.move (Operand.tmp 3), type := 26, pos := "law.go:55", after := #[{ on := 9, ground := Ground.guard }], guard := some (9, true) }) (v := ?v7) rfl (by kernel_rfl) (by kernel_rfl) (by kernel_rfl) (fun _ _ _ h => h) (Or.inl ⟨by rfl, ?hy7⟩) hHeld ?_
    case hy7 => (intro w hSw; (try dsimp only at hSw); go_simp; (try with_reducible rfl))
    (try simp only [Act.put, List.setIfInBounds_toArray, List.set_cons_zero, List.set_cons_succ])
    refine wpAnyH_take (i := 11) (oi := { dst := some 36, op := Op.move (Operand.tmp 0), type := 26, pos := "law.go:55", after := #[{ on := 9, ground := Ground.guard }], guard := some (9, true) }) (v := ?v8) rfl (by kernel_rfl) (by kernel_rfl) (by kernel_rfl) (fun _ _ _ h => h) (Or.inl ⟨by rfl, ?hy8⟩) hHeld ?_
    case hy8 => (intro w hSw; (try dsimp only at hSw); go_simp; (try with_reducible rfl))
    (try simp only [Act.put, List.setIfInBounds_toArray, List.set_cons_zero, List.set_cons_succ])
    refine wpAnyH_ready (rs := [12]) (by kernel_rfl) (by simp) ?_
    refine AllReadyH.cons (o := { dst := some 37, op := Op.call { callee := Callee.value (Operand.func 10), args := #[Operand.tmp 35, Operand.tmp 36], argTypes := #[26, 26] }, type := 4, pos := "law.go:55", after := #[{ on := 10, ground := Ground.data }, { on := 11, ground := Ground.data }, { on := 9, ground := Ground.chain }, { on := 9, ground := Ground.guard }], guard := some (9, true) }) rfl (fun K hK => ?_) ?_
    go_simp; refine (SS _ hHeld.2.2.2.2.1 hHeld.2.2.2.2.2).out.mono ?_; rintro e wC ⟨rfl, hC⟩; subst hC
    refine hK.out _ _ (hHeld) (fun hHeld => ?_)
    clear hK K
    (try simp only [List.setIfInBounds_toArray, List.set_cons_zero, List.set_cons_succ])
    refine wpAnyH_take (i := 13) (oi := { dst := some 38, op := Op.pick (Operand.tmp 34) (Operand.tmp 37) (Operand.const (Value.bool false)), type := 4, pos := "law.go:55", after := #[{ on := 9, ground := Ground.data }, { on := 12, ground := Ground.data }], guard := none }) (v := ?v9) rfl (by kernel_rfl) (by kernel_rfl) (by kernel_rfl) (fun _ _ _ h => h) (Or.inl ⟨by rfl, ?hy9⟩) hHeld ?_
    case hy9 => (intro w hSw; (try dsimp only at hSw); go_simp; (try with_reducible rfl))
    (try simp only [Act.put, List.setIfInBounds_toArray, List.set_cons_zero, List.set_cons_succ])
    refine wpAnyH_take (i := 14) (oi := { dst := some 2, op := Op.assign (Operand.tmp 38), type := 4, pos := "law.go:55", after := #[{ on := 13, ground := Ground.data }, { on := 12, ground := Ground.chain }, { on := 0, ground := Ground.phase }, { on := 1, ground := Ground.phase }, { on := 2, ground := Ground.phase }, { on := 3, ground := Ground.phase }, { on := 4, ground := Ground.phase }, { on := 5, ground := Ground.phase }, { on := 6, ground := Ground.phase }, { on := 7, ground := Ground.phase }, { on := 8, ground := Ground.phase }, { on := 9, ground := Ground.phase }, { on := 10, ground := Ground.phase }, { on := 11, ground := Ground.phase }, { on := 12, ground := Ground.phase }, { on := 13, ground := Ground.phase }], guard := none }) (v := ?v10) rfl (by kernel_rfl) (by kernel_rfl) (by kernel_rfl) (fun _ _ _ h => h) (Or.inl ⟨by rfl, ?hy10⟩) hHeld ?_
    case hy10 => (intro w hSw; (try dsimp only at hSw); go_simp; (try with_reducible rfl))
    (try simp only [Act.put, List.setIfInBounds_toArray, List.set_cons_zero, List.set_cons_succ])
    refine wpAnyH_done (by kernel_rfl) ?_ _
    rotate_left
    exact AllReadyH.nil
    exact AllReadyH.nil
    exact AllReadyH.nil
    have BZ := hid (bstep (bstep (bstep B4.out ((Below.refl w5.heap.size w5).drew)) bA) bB)
    clear bA bB keepS hHeld PW RS SS f1 f2 f3 f4 f5 f6
    go_wp2
    go_ret
    exact ⟨rfl, BZ.out⟩
  · have t1 : decide ((n : Int) > 500) = true := by rw [decide_eq_true_eq]; omega
    go_wp2
    go_ret
    exact ⟨rfl, b1⟩
end Go.Proofs.Ytgaidleepjkldaa

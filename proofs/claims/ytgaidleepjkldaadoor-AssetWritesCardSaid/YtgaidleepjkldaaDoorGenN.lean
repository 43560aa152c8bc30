/- The walk of the statement AssetWrites. -/
import Derived.Test.YtgaidleepjkldaaDoorGenM
import Derived.Test.YtgaidleepjkldaaDoorGenK
namespace Go.Proofs.YtgaidleepjkldaaDoor
open Go.RowKit

theorem gen_cells_set (g : Gen) (a : Option Addr) (c : Nat) (a' : Option Addr) (c' : Nat) (h1 : g.tx.length = 32) : (g.cells a c).set 33 (.slice a' g.nm.length c') = g.cells a' c' := by
  unfold Gen.cells
  have l1 : (nums .u8 g.tx ++ [Value.int .i64 g.out]).length = 33 := by rw [List.length_append, nums_length, h1]; rfl
  generalize nums .u8 g.tx ++ [Value.int .i64 g.out] = FR at *
  simp only [List.append_assoc]
  rw [List.set_append_right _ _ (by omega), l1]
  rfl
theorem Sl.farN {k : IntKind} {w w' : World} {H n cap : Nat} {a : Option Addr} {xs : List Nat} (h : Sl k w a n cap xs) (hf : Far H w w') (hne : 0 < n → ∀ b off, a = some ⟨b, off, none⟩ → b ≠ H) : Sl k w' a n cap xs := by
  by_cases hn : 0 < n
  · exact Far.rd h hf (hne hn)
  · have hl := h.len
    obtain ⟨r1, r2, r3, r4, b, off, ha, hc⟩ := h
    have hx : xs = [] := List.eq_nil_of_length_eq_zero (by omega)
    subst hx
    exact ⟨r1, r2, r3, r4, b, off, ha, fun j u hu => by simp [nums] at hu⟩
set_option maxRecDepth 100000 in
set_option maxHeartbeats 8000000 in
theorem lawWrites (g : Gen) (a : Option Addr) (c : Nat) (w : World) (h : g.good w a c) (ht : Tabs w) :
    Calls Tryd.prog 4 #[.agg (g.cells a c).toArray] w fun e w' => e = .returned (.bool true) ∧ Below w.heap.size w w' := by
  have HT := hid ht
  have GP := hid (heap_alloc_new w (.cells (g.cells a c).toArray 28))
  have b0 := (Below.refl w.heap.size w).alloc (Nat.le_refl _) (.cells (g.cells a c).toArray 28)
  have B0 := hid b0
  have HG0 := hid (h.below b0)
  have hg1 := hid h.tl
  have hg2 := hid h.ml
  have hgn := hid h.nb
  have hs0 := hid h.sl
  have HGF := hid h
  have hiG := hid (show (Tryd.prog.info? 28).map (·.size) = some (g.cells a c).length by rw [Gen.len a c h.tl h.ml]; exact infoGen)
  obtain ⟨_, e2, _⟩ := Gen.at' a c h.tl h.ml
  have E2 := hid e2
  obtain ⟨X, hX⟩ : ∃ X, X = (if g.check = 0 then g.bytes else []) := ⟨_, rfl⟩
  have GW := fun a c w h => genc_walk g a c w h
  have RW := fun a c w h => rgenc_walk g a c w h
  have CW := fun w => check_walk g a c h.tl h.ml w
  unfold GEnc at GW RW
  unfold NumB at CW
  rw [← hX] at GW RW
  obtain ⟨cg, hcg⟩ : ∃ x, x = g.check := ⟨_, rfl⟩
  rw [← hcg] at GW RW CW
  have GW := hid GW
  have RW := hid RW
  have CW := hid CW
  have HX := hid hX
  have HCG := hid hcg
  have HXl := hid (show ∀ d ∈ X, d < 256 by
    rw [hX]; split
    · rename_i h0; exact gen_bytes_lt h0 h.mb h.tb h.nb
    · simp)
  clear h ht e2 hX hcg b0
  go_enter Tryd.func4, Tryd.ntmps4
  go_upto_region 1 with (fail)
  generalize w.alloc (.cells (g.cells a c).toArray 28) = w0 at *
  generalize hP1 : w.heap.size = P1 at *
  go_wp2_with fail
  refine (head_walk _).mono ?_
  rintro e w1 ⟨rfl, b1⟩
  have hw0 : P1 ≤ w0.heap.size := Nat.le_of_lt (Array.getElem?_eq_some_iff.1 GP.out).1
  have B1 := hid (B0.out.trans (b1.mono hw0))
  have GP1 := hid (heap_keep GP.out b1)
  have HG1 := hid (HG0.out.below b1)
  have hw1 : P1 < w1.heap.size := (Array.getElem?_eq_some_iff.1 GP1.out).1
  have c2 := gen_cell (row_range GP1.out) E2.out
  clear b1 GP B0 HG0 hw0
  by_cases hbig : 200 < g.nm.length
  · have t1 : decide ((g.nm.length : Int) > 200) = true := by rw [decide_eq_true_eq]; omega
    clear hbig
    go_wp2
    go_ret
    exact ⟨rfl, hP1 ▸ B1.out⟩
  · have t1 : decide ((g.nm.length : Int) > 200) = false := by rw [decide_eq_false_iff_not]; omega
    have hn200 : g.nm.length ≤ 200 := by omega
    clear hbig
    have rA := row_range GP1.out
    have hiGa := hid (show (Tryd.prog.info? 28).map (·.size) = some (g.cells a c).toArray.size by rw [List.size_toArray]; exact hiG.out)
    have hzG : ∀ z : Array Value, z.size = 67 → z.size = (g.cells a c).toArray.size := fun z hz => by rw [hz, List.size_toArray, Gen.len a c hg1.out hg2.out]
    have hoG := hid (all_oneCell_toArray (Gen.one g a c))
    have ZV := zeroGen
    have hZ := genZ_size
    generalize genZ 0 = Z at *
    go_upto_region 6 with (first | (refine wpList_load_mid rfl _ _ rfl P1 0 rfl (g.cells a c) _ rA Tryd.underlying28 rfl hiG.out ?_) | (refine wpList_store_row rfl _ _ _ rfl w1.heap.size (g.cells a c).toArray rfl rfl _ _ (heap_alloc_new w1 _) hiGa.out (hzG _ hZ) hoG.out ?_))
    have LA := fun z => laid w1 z (g.cells a c).toArray 28
    generalize hW : World.setRow _ _ _ = w2
    replace LA := hid (hW ▸ LA _)
    have B2 := hid (B1.out.trans (LA.out.2.mono (Nat.le_of_lt hw1)))
    have GP2 := hid (heap_keep GP1.out LA.out.2)
    have MP2 := hid LA.out.1
    have HG2 := hid (HG1.out.below LA.out.2)
    have hw2 : P1 < w2.heap.size := (Array.getElem?_eq_some_iff.1 GP2.out).1
    clear hW LA rA c2 t1 B1 GP1 HG1 hzG hoG ZV hZ
    generalize hP3 : w1.heap.size = P3 at *
    have hne : P1 ≠ P3 := by omega
    have hle : P1 ≤ P3 := by omega
    have c2 := gen_cell (row_range GP2.out) E2.out
    clear hP3
    go_wp2_with fail
    refine (copy_walk a g.nm.length c g.nm (by omega) _ HG2.out.sl).mono ?_
    rintro e w3 ⟨v3, rfl, _, own3, b3⟩
    obtain ⟨a3, c3, rfl, hrd⟩ := SlV.of_owns own3
    have B3 := hid (B2.out.trans (b3.mono (Nat.le_of_lt hw2)))
    have GP3 := hid (heap_keep GP2.out b3)
    have MP3 := hid (heap_keep MP2.out b3)
    have HG3a := hid (HG2.out.below b3)
    have SN3 := hid hrd
    have hP3w := (Array.getElem?_eq_some_iff.1 MP2.out).1
    have hown := hid (show ∀ b off, a3 = some ⟨b, off, none⟩ → b ≠ P3 from fun b off e hb => by
      subst e
      have := (own3.lt b rfl).1
      omega)
    have f33 := frozen_of_row _ P3 33 _ _ MP3.out
    have hc33 := hid (cell_of_row _ P3 33 _ _ (0, 0) MP3.out)
    have d33 : w3.cell? ⟨P3, 33, none⟩ = some (.slice a g.nm.length c) := by rw [hc33.out]; simpa using E2.out
    have M4 := hid (heap_set (i := 33) (.slice a3 g.nm.length c3) MP3.out)
    have F4 := hid (Far.set (H := P3) (j := 33) (w := w3) (.slice a3 g.nm.length c3))
    rw [gen_cells_set g a c a3 c3 hg1.out] at M4
    have GP4 := hid (heap_far GP3.out F4.out hne)
    have SN4 := hid (Sl.farN SN3.out F4.out (fun _ => hown.out))
    have SA4 := hid (Sl.farN HG3a.out.sl F4.out (fun hn b off e hb => sl_ne hs0.out hn (by omega) b off e hb))
    have B4 := hid (B3.out.trans (F4.out.below hle (by have := b3.size; omega)))
    have HG4 := hid (show g.good _ a c from ⟨HGF.out.tl, HGF.out.tb, HGF.out.ml, HGF.out.mb, HGF.out.nb, HGF.out.nl, HGF.out.ow, HGF.out.kw, SA4.out⟩)
    have HM4 := hid (show g.good _ a3 c3 from ⟨HGF.out.tl, HGF.out.tb, HGF.out.ml, HGF.out.mb, HGF.out.nb, HGF.out.nl, HGF.out.ow, HGF.out.kw, SN4.out⟩)
    clear b3 own3 hrd c2 B2 GP2 MP2 HG2 hc33 HG3a SN3 B3 MP3 GP3 SN4 SA4 F4
    have hiG3 := hid (show (Tryd.prog.info? 28).map (·.size) = some (g.cells a3 c3).length by rw [Gen.len a3 c3 hg1.out hg2.out]; exact infoGen)
    go_upto_region 7 with (fail)
    generalize World.setCell w3 _ _ = w4 at *
    have hw4 : P1 < w4.heap.size := (Array.getElem?_eq_some_iff.1 GP4.out).1
    have rM := row_range M4.out
    clear f33 d33
    go_wp2_with (refine wpList_load_mid rfl _ _ rfl P3 0 rfl (g.cells a3 c3) _ rM Tryd.underlying28 rfl hiG3.out ?_)
    refine (GW.out a3 c3 _ HM4.out).mono ?_
    rintro e w5 ⟨v5, rfl, ⟨ax, cx, rfl, sx⟩, b5⟩
    obtain ⟨nx, hnx⟩ : ∃ nx, nx = X.length := ⟨_, rfl⟩
    rw [← hnx] at sx ⊢
    have HNX := hid hnx
    have SX5 := hid sx
    have B5 := hid (B4.out.trans (b5.mono (Nat.le_of_lt hw4)))
    have GP5 := hid (heap_keep GP4.out b5)
    have M5 := hid (heap_keep M4.out b5)
    have HG5 := hid (HG4.out.below b5)
    have HM5 := hid (HM4.out.below b5)
    have hw5 : P1 < w5.heap.size := (Array.getElem?_eq_some_iff.1 GP5.out).1
    have rA := row_range GP5.out
    clear b5 sx hnx rM B4 GP4 M4 HG4 HM4
    go_wp2_with (refine wpList_load_mid rfl _ _ rfl P1 0 rfl (g.cells a c) _ rA Tryd.underlying28 rfl hiG.out ?_)
    refine (plain_walk g a c hg1.out hg2.out _).mono ?_
    rintro e w6 ⟨rfl, b6⟩
    have B6 := hid (B5.out.trans (b6.mono (Nat.le_of_lt hw5)))
    have GP6 := hid (heap_keep GP5.out b6)
    have M6 := hid (heap_keep M5.out b6)
    have HG6 := hid (HG5.out.below b6)
    have HM6 := hid (HM5.out.below b6)
    have SX6 := hid (SX5.out.below b6)
    have hw6 : P1 < w6.heap.size := (Array.getElem?_eq_some_iff.1 GP6.out).1
    clear b6 rA B5 GP5 M5 HG5 HM5 SX5
    go_wp2_with fail
    refine (RW.out a c _ HG6.out).mono ?_
    rintro e wz ⟨v7, rfl, ⟨ax', cx', rfl, sx'⟩, b7⟩
    rw [← HNX.out] at sx' ⊢
    have Bz := hid (B6.out.trans (b7.mono (Nat.le_of_lt hw6)))
    have GPz := hid (heap_keep GP6.out b7)
    have Mz := hid (heap_keep M6.out b7)
    have HG1 := hid (HG6.out.below b7)
    have HG3 := hid (HM6.out.below b7)
    have SX := hid (SX6.out.below b7)
    have SX' := hid sx'
    have hwz : P1 ≤ wz.heap.size := Nat.le_of_lt (Array.getElem?_eq_some_iff.1 GPz.out).1
    have R1 := hid (row_range GPz.out)
    have R3 := hid (row_range Mz.out)
    have HTz := hid (HT.out.below (hP1 ▸ Bz.out))
    have e1 : ∀ (op : BinOp) (x y : Operand) (w : World), (eqGuard op 23 x y (hv (idG g)) (hv (idG g))).run Tryd.prog w = .ok () w := guard_hv (idG g) (idG g)
    have e2 : ∀ w, (binOp .neq 23 (hv (idG g)) (hv (idG g))).run Tryd.prog w = .ok (.bool false) w := fun w => by
      have := neq_hv (w := w) (idG_ok g).1 (idG_ok g).1 (idG_ok g).2 (idG_ok g).2
      rw [decide_eq_true rfl] at this; exact this
    clear b7 sx' B6 GP6 M6 HG6 HM6 SX6
    go_upto_region 9 with (fail)
    refine wp_region_held_drew (S := fun w' => Below wz.heap.size wz w') (by kernel_rfl) ((Below.refl _ _).drew) (fun hHeld => ?_)
    try simp only [List.size_toArray, List.length_cons, List.length_nil, Nat.reduceAdd, Array.replicate_succ, Array.replicate_zero, List.push_toArray, List.nil_append, List.cons_append]
    refine wpAnyH_take (i := 0) (oi := { dst := some 32, op := Op.move (Operand.tmp 5), type := 30, pos := "law.go:34", after := #[], guard := none }) (v := ?v1) rfl (by kernel_rfl) (by kernel_rfl) (by kernel_rfl) (fun _ _ _ h => h) (Or.inl ⟨by rfl, ?hy1⟩) hHeld ?_
    case hy1 => (intro w hSw; (try dsimp only at hSw); go_simp; (try with_reducible rfl))
    (try simp only [Act.put, List.setIfInBounds_toArray, List.set_cons_zero, List.set_cons_succ])
    refine wpAnyH_take (i := 1) (oi := { dst := some 33, op := Op.move (Operand.tmp 7), type := 3, pos := "law.go:34", after := #[], guard := none }) (v := ?v2) rfl (by kernel_rfl) (by kernel_rfl) (by kernel_rfl) (fun _ _ _ h => h) (Or.inl ⟨by rfl, ?hy2⟩) hHeld ?_
    case hy2 => (intro w hSw; (try dsimp only at hSw); go_simp; (try with_reducible rfl))
    (try simp only [Act.put, List.setIfInBounds_toArray, List.set_cons_zero, List.set_cons_succ])
    refine wpAnyH_take (i := 2) (oi := { dst := some 34, op := Op.binOp BinOp.neq 3 (Operand.tmp 32) (Operand.tmp 33) 3, type := 4, pos := "law.go:34", after := #[{ on := 0, ground := Ground.data }, { on := 1, ground := Ground.data }], guard := none }) (v := ?v3) rfl (by kernel_rfl) (by kernel_rfl) (by kernel_rfl) (fun _ _ _ h => h) (Or.inl ⟨by rfl, ?hy3⟩) hHeld ?_
    case hy3 => (intro w hSw; (try dsimp only at hSw); go_simp; (try with_reducible rfl))
    (try simp only [Act.put, List.setIfInBounds_toArray, List.set_cons_zero, List.set_cons_succ])
    refine wpAnyH_take (i := 3) (oi := { dst := some 35, op := Op.move (Operand.tmp 34), type := 4, pos := "law.go:34", after := #[{ on := 2, ground := Ground.data }], guard := none }) (v := ?v4) rfl (by kernel_rfl) (by kernel_rfl) (by kernel_rfl) (fun _ _ _ h => h) (Or.inl ⟨by rfl, ?hy4⟩) hHeld ?_
    case hy4 => (intro w hSw; (try dsimp only at hSw); go_simp; (try with_reducible rfl))
    (try simp only [Act.put, List.setIfInBounds_toArray, List.set_cons_zero, List.set_cons_succ])
    refine' wpAnyH_take (i := 4) (oi := { dst := some 36, op := Op.load 28 (Operand.tmp 1), type := 28, pos := "law.go:34", after := #[{ on := 3, ground := Ground.guard }], guard := some (3, false) }) (v := _) rfl (by kernel_rfl) (by kernel_rfl) (by kernel_rfl) (fun _ _ _ h => h) (yieldsIf_load_mid (by rfl) _ _ rfl P1 0 rfl (g.cells a c) _ (fun _ h => range_keep h R1.out) Tryd.underlying28 rfl hiG.out) hHeld ?_
    (try simp only [Act.put, List.setIfInBounds_toArray, List.set_cons_zero, List.set_cons_succ])
    refine wpAnyH_take (i := 6) (oi := { dst := some 38, op := Op.move (Operand.tmp 7), type := 3, pos := "law.go:34", after := #[{ on := 3, ground := Ground.guard }], guard := some (3, false) }) (v := ?v5) rfl (by kernel_rfl) (by kernel_rfl) (by kernel_rfl) (fun _ _ _ h => h) (Or.inl ⟨by rfl, ?hy5⟩) hHeld ?_
    case hy5 => (intro w hSw; (try dsimp only at hSw); go_simp; (try with_reducible rfl))
    (try simp only [Act.put, List.setIfInBounds_toArray, List.set_cons_zero, List.set_cons_succ])
    refine wpAnyH_ready (rs := [5]) (by kernel_rfl) (by simp) ?_
    refine AllReadyH.cons (o := { dst := some 37, op := Op.call { callee := Callee.value (Operand.func 13), args := #[Operand.tmp 36], argTypes := #[28] }, type := 30, pos := "law.go:34", after := #[{ on := 4, ground := Ground.data }, { on := 3, ground := Ground.chain }, { on := 3, ground := Ground.guard }], guard := some (3, false) }) rfl (fun K hK => ?_) ?_
    go_simp; refine (CW.out _).mono ?_; rintro e wa ⟨rfl, ba⟩; have BA := hid ba; clear ba
    refine hK.out _ _ (by first | exact hHeld.trans (BA.out.mono hHeld.size) | exact BA.out) (fun hHeld => ?_)
    clear hK K
    (try simp only [List.setIfInBounds_toArray, List.set_cons_zero, List.set_cons_succ])
    refine wpAnyH_take (i := 7) (oi := { dst := some 39, op := Op.binOp BinOp.neq 3 (Operand.tmp 37) (Operand.tmp 38) 3, type := 4, pos := "law.go:34", after := #[{ on := 5, ground := Ground.data }, { on := 6, ground := Ground.data }, { on := 3, ground := Ground.guard }], guard := some (3, false) }) (v := ?v6) rfl (by kernel_rfl) (by kernel_rfl) (by kernel_rfl) (fun _ _ _ h => h) (Or.inl ⟨by rfl, ?hy6⟩) hHeld ?_
    case hy6 => (intro w hSw; (try dsimp only at hSw); go_simp; (try with_reducible rfl))
    (try simp only [Act.put, List.setIfInBounds_toArray, List.set_cons_zero, List.set_cons_succ])
    refine wpAnyH_take (i := 8) (oi := { dst := some 40, op := Op.pick (Operand.tmp 35) (Operand.const (Value.bool true)) (Operand.tmp 39), type := 4, pos := "law.go:34", after := #[{ on := 3, ground := Ground.data }, { on := 7, ground := Ground.data }], guard := none }) (v := ?v7) rfl (by kernel_rfl) (by kernel_rfl) (by kernel_rfl) (fun _ _ _ h => h) (Or.inl ⟨by rfl, ?hy7⟩) hHeld ?_
    case hy7 => (intro w hSw; (try dsimp only at hSw); go_simp; (try with_reducible rfl))
    (try simp only [Act.put, List.setIfInBounds_toArray, List.set_cons_zero, List.set_cons_succ])
    refine wpAnyH_take (i := 9) (oi := { dst := some 41, op := Op.move (Operand.tmp 40), type := 4, pos := "law.go:34", after := #[{ on := 8, ground := Ground.data }, { on := 5, ground := Ground.chain }], guard := none }) (v := ?v8) rfl (by kernel_rfl) (by kernel_rfl) (by kernel_rfl) (fun _ _ _ h => h) (Or.inl ⟨by rfl, ?hy8⟩) hHeld ?_
    case hy8 => (intro w hSw; (try dsimp only at hSw); go_simp; (try with_reducible rfl))
    (try simp only [Act.put, List.setIfInBounds_toArray, List.set_cons_zero, List.set_cons_succ])
    refine wpAnyH_take (i := 10) (oi := { dst := some 42, op := Op.move (Operand.tmp 4), type := 26, pos := "law.go:34", after := #[{ on := 9, ground := Ground.guard }], guard := some (9, false) }) (v := ?v9) rfl (by kernel_rfl) (by kernel_rfl) (by kernel_rfl) (fun _ _ _ h => h) (Or.inl ⟨by rfl, ?hy9⟩) hHeld ?_
    case hy9 => (intro w hSw; (try dsimp only at hSw); go_simp; (try with_reducible rfl))
    (try simp only [Act.put, List.setIfInBounds_toArray, List.set_cons_zero, List.set_cons_succ])
    refine wpAnyH_take (i := 11) (oi := { dst := some 43, op := Op.move (Operand.tmp 6), type := 26, pos := "law.go:34", after := #[{ on := 9, ground := Ground.guard }], guard := some (9, false) }) (v := ?v10) rfl (by kernel_rfl) (by kernel_rfl) (by kernel_rfl) (fun _ _ _ h => h) (Or.inl ⟨by rfl, ?hy10⟩) hHeld ?_
    case hy10 => (intro w hSw; (try dsimp only at hSw); go_simp; (try with_reducible rfl))
    (try simp only [Act.put, List.setIfInBounds_toArray, List.set_cons_zero, List.set_cons_succ])
    refine wpAnyH_ready (rs := [12]) (by kernel_rfl) (by simp) ?_
    refine AllReadyH.cons (o := { dst := some 44, op := Op.call { callee := Callee.value (Operand.func 10), args := #[Operand.tmp 42, Operand.tmp 43], argTypes := #[26, 26] }, type := 4, pos := "law.go:34", after := #[{ on := 10, ground := Ground.data }, { on := 11, ground := Ground.data }, { on := 9, ground := Ground.chain }, { on := 9, ground := Ground.guard }], guard := some (9, false) }) rfl (fun K hK => ?_) ?_
    go_simp; refine (same_self ax ax' nx cx nx cx' X HXl.out _ (SX.out.below hHeld) (SX'.out.below hHeld)).mono ?_; rintro e wb ⟨rfl, rfl⟩
    refine hK.out _ _ (hHeld) (fun hHeld => ?_)
    clear hK K
    (try simp only [List.setIfInBounds_toArray, List.set_cons_zero, List.set_cons_succ])
    refine wpAnyH_take (i := 13) (oi := { dst := some 45, op := Op.unOp UnOp.not 4 (Operand.tmp 44), type := 4, pos := "law.go:34", after := #[{ on := 12, ground := Ground.data }, { on := 9, ground := Ground.guard }], guard := some (9, false) }) (v := ?v11) rfl (by kernel_rfl) (by kernel_rfl) (by kernel_rfl) (fun _ _ _ h => h) (Or.inl ⟨by rfl, ?hy11⟩) hHeld ?_
    case hy11 => (intro w hSw; (try dsimp only at hSw); go_simp; (try with_reducible rfl))
    (try simp only [Act.put, List.setIfInBounds_toArray, List.set_cons_zero, List.set_cons_succ])
    refine wpAnyH_take (i := 14) (oi := { dst := some 46, op := Op.pick (Operand.tmp 41) (Operand.const (Value.bool true)) (Operand.tmp 45), type := 4, pos := "law.go:34", after := #[{ on := 9, ground := Ground.data }, { on := 13, ground := Ground.data }], guard := none }) (v := ?v12) rfl (by kernel_rfl) (by kernel_rfl) (by kernel_rfl) (fun _ _ _ h => h) (Or.inl ⟨by rfl, ?hy12⟩) hHeld ?_
    case hy12 => (intro w hSw; (try dsimp only at hSw); go_simp; (try with_reducible rfl))
    (try simp only [Act.put, List.setIfInBounds_toArray, List.set_cons_zero, List.set_cons_succ])
    refine wpAnyH_take (i := 15) (oi := { dst := some 47, op := Op.move (Operand.tmp 46), type := 4, pos := "law.go:34", after := #[{ on := 14, ground := Ground.data }, { on := 12, ground := Ground.chain }], guard := none }) (v := ?v13) rfl (by kernel_rfl) (by kernel_rfl) (by kernel_rfl) (fun _ _ _ h => h) (Or.inl ⟨by rfl, ?hy13⟩) hHeld ?_
    case hy13 => (intro w hSw; (try dsimp only at hSw); go_simp; (try with_reducible rfl))
    (try simp only [Act.put, List.setIfInBounds_toArray, List.set_cons_zero, List.set_cons_succ])
    refine' wpAnyH_take (i := 16) (oi := { dst := some 48, op := Op.load 28 (Operand.tmp 3), type := 28, pos := "law.go:34", after := #[{ on := 15, ground := Ground.guard }], guard := some (15, false) }) (v := _) rfl (by kernel_rfl) (by kernel_rfl) (by kernel_rfl) (fun _ _ _ h => h) (yieldsIf_load_mid (by rfl) _ _ rfl P3 0 rfl (g.cells a3 c3) _ (fun _ h => range_keep h R3.out) Tryd.underlying28 rfl hiG3.out) hHeld ?_
    (try simp only [Act.put, List.setIfInBounds_toArray, List.set_cons_zero, List.set_cons_succ])
    refine' wpAnyH_take (i := 19) (oi := { dst := some 51, op := Op.load 28 (Operand.tmp 1), type := 28, pos := "law.go:34", after := #[{ on := 15, ground := Ground.guard }], guard := some (15, false) }) (v := _) rfl (by kernel_rfl) (by kernel_rfl) (by kernel_rfl) (fun _ _ _ h => h) (yieldsIf_load_mid (by rfl) _ _ rfl P1 0 rfl (g.cells a c) _ (fun _ h => range_keep h R1.out) Tryd.underlying28 rfl hiG.out) hHeld ?_
    (try simp only [Act.put, List.setIfInBounds_toArray, List.set_cons_zero, List.set_cons_succ])
    refine wpAnyH_ready (rs := [17]) (by kernel_rfl) (by simp) ?_
    refine AllReadyH.cons (o := { dst := some 49, op := Op.call { callee := Callee.value (Operand.func 7), args := #[Operand.tmp 48], argTypes := #[28] }, type := 23, pos := "law.go:34", after := #[{ on := 16, ground := Ground.data }, { on := 15, ground := Ground.chain }, { on := 15, ground := Ground.guard }], guard := some (15, false) }) rfl (fun K hK => ?_) ?_
    go_simp; refine (gid_walk g a3 c3 _ (HG3.out.below hHeld) (HTz.out.below hHeld)).mono ?_; rintro e wc ⟨rfl, bc⟩; have BC := hid bc; clear bc
    refine hK.out _ _ (by first | exact hHeld.trans (BC.out.mono hHeld.size) | exact BC.out) (fun hHeld => ?_)
    clear hK K
    (try simp only [List.setIfInBounds_toArray, List.set_cons_zero, List.set_cons_succ])
    refine wpAnyH_ready (rs := [18]) (by kernel_rfl) (by simp) ?_
    refine AllReadyH.cons (o := { dst := some 50, op := Op.call { callee := Callee.value (Operand.func 15), args := #[], argTypes := #[] }, type := 49, pos := "law.go:34", after := #[{ on := 17, ground := Ground.chain }, { on := 15, ground := Ground.guard }], guard := some (15, false) }) rfl (fun K hK => ?_) ?_
    go_simp; refine (make_walk _).mono ?_; rintro e wd ⟨rfl, bd⟩; have BD := hid bd; clear bd
    refine hK.out _ _ (by first | exact hHeld.trans (BD.out.mono hHeld.size) | exact BD.out) (fun hHeld => ?_)
    clear hK K
    (try simp only [List.setIfInBounds_toArray, List.set_cons_zero, List.set_cons_succ])
    refine wpAnyH_ready (rs := [20]) (by kernel_rfl) (by simp) ?_
    refine AllReadyH.cons (o := { dst := some 52, op := Op.call { callee := Callee.value (Operand.func 9), args := #[Operand.tmp 51], argTypes := #[28] }, type := 36, pos := "law.go:34", after := #[{ on := 19, ground := Ground.data }, { on := 18, ground := Ground.chain }, { on := 15, ground := Ground.guard }], guard := some (15, false) }) rfl (fun K hK => ?_) ?_
    go_simp; refine (plain_walk g a c hg1.out hg2.out _).mono ?_; rintro e we ⟨rfl, be⟩; have BE := hid be; clear be
    refine hK.out _ _ (by first | exact hHeld.trans (BE.out.mono hHeld.size) | exact BE.out) (fun hHeld => ?_)
    clear hK K
    (try simp only [List.setIfInBounds_toArray, List.set_cons_zero, List.set_cons_succ])
    refine wpAnyH_ready (rs := [21]) (by kernel_rfl) (by simp) ?_
    refine AllReadyH.cons (o := { dst := some 53, op := Op.call { callee := Callee.value (Operand.func 14), args := #[Operand.tmp 50, Operand.tmp 52], argTypes := #[49, 36] }, type := 22, pos := "law.go:34", after := #[{ on := 18, ground := Ground.data }, { on := 20, ground := Ground.data }, { on := 20, ground := Ground.chain }, { on := 15, ground := Ground.guard }], guard := some (15, false) }) rfl (fun K hK => ?_) ?_
    go_simp; refine (rgid_walk g a c _ (HG1.out.below hHeld)).mono ?_; rintro e wf ⟨rfl, bf⟩; have BF := hid bf; clear bf
    refine hK.out _ _ (by first | exact hHeld.trans (BF.out.mono hHeld.size) | exact BF.out) (fun hHeld => ?_)
    clear hK K
    (try simp only [List.setIfInBounds_toArray, List.set_cons_zero, List.set_cons_succ])
    refine wpAnyH_take (i := 22) (oi := { dst := some 54, op := Op.binOp BinOp.neq 23 (Operand.tmp 49) (Operand.tmp 53) 23, type := 4, pos := "law.go:34", after := #[{ on := 17, ground := Ground.data }, { on := 21, ground := Ground.data }, { on := 15, ground := Ground.guard }], guard := some (15, false) }) (v := ?v14) rfl (by kernel_rfl) (by kernel_rfl) (by kernel_rfl) (fun _ _ _ h => h) (Or.inl ⟨by rfl, ?hy14⟩) hHeld ?_
    case hy14 => (intro w hSw; (try dsimp only at hSw); go_simp; (try with_reducible rfl))
    (try simp only [Act.put, List.setIfInBounds_toArray, List.set_cons_zero, List.set_cons_succ])
    refine wpAnyH_take (i := 23) (oi := { dst := some 55, op := Op.pick (Operand.tmp 47) (Operand.const (Value.bool true)) (Operand.tmp 54), type := 4, pos := "law.go:34", after := #[{ on := 15, ground := Ground.data }, { on := 22, ground := Ground.data }], guard := none }) (v := ?v15) rfl (by kernel_rfl) (by kernel_rfl) (by kernel_rfl) (fun _ _ _ h => h) (Or.inl ⟨by rfl, ?hy15⟩) hHeld ?_
    case hy15 => (intro w hSw; (try dsimp only at hSw); go_simp; (try with_reducible rfl))
    (try simp only [Act.put, List.setIfInBounds_toArray, List.set_cons_zero, List.set_cons_succ])
    refine wpAnyH_done (by kernel_rfl) ?_ _
    rotate_left
    exact AllReadyH.nil
    exact AllReadyH.nil
    exact AllReadyH.nil
    exact AllReadyH.nil
    exact AllReadyH.nil
    exact AllReadyH.nil
    all_goals
      have By := hid (Bz.out.trans (hHeld.mono hwz))
      have GPy := hid (heap_keep GPz.out hHeld)
      have My := hid (heap_keep Mz.out hHeld)
      have HG1y := hid (HG1.out.below hHeld)
      have HG3y := hid (HG3.out.below hHeld)
      have SXy := hid (SX.out.below hHeld)
      clear hHeld e1 e2 R1 R3 HTz Bz GPz Mz HG1 HG3 SX SX'
      have hwy : P1 < wf.heap.size := (Array.getElem?_eq_some_iff.1 GPy.out).1
      by_cases hc0 : cg = 0
      · have hgc := HCG.out.symm.trans hc0
        have HXB := hid (show X = g.bytes by rw [HX.out, if_pos hgc])
        have hdec := hid (show decG X = (g, 0) by rw [HXB.out]; exact decG_bytes hgc hg2.out hg1.out)
        have hnxb : nx ≤ 16781824 := by rw [HNX.out, HXB.out]; exact (gen_bytes_len hgc hg2.out hg1.out).2
        subst hc0
        clear hgc
        go_wp2_with fail
        refine (gdec_walk ax nx cx X HXl.out (by omega) _ SXy.out).mono ?_
        intro e wg d
        unfold GDec at d
        rw [hdec.out] at d
        obtain ⟨a8, c8, rfl, hg8, b8⟩ := d
        have HG8a := hid hg8
        have Bg := hid (By.out.trans (b8.mono (Nat.le_of_lt hwy)))
        have GPg := hid (heap_keep GPy.out b8)
        have Mg := hid (heap_keep My.out b8)
        have HG1g := hid (HG1y.out.below b8)
        have HG3g := hid (HG3y.out.below b8)
        have hwg : P1 < wg.heap.size := (Array.getElem?_eq_some_iff.1 GPg.out).1
        clear b8 hg8 By GPy My HG1y HG3y SXy
        have hiG8 := hid (show (Tryd.prog.info? 28).map (·.size) = some (g.cells a8 c8).length by rw [Gen.len a8 c8 hg1.out hg2.out]; exact infoGen)
        have hiG8a := hid (show (Tryd.prog.info? 28).map (·.size) = some (g.cells a8 c8).toArray.size by rw [List.size_toArray]; exact hiG8.out)
        have hzG8 : ∀ z : Array Value, z.size = 67 → z.size = (g.cells a8 c8).toArray.size := fun z hz => by rw [hz, List.size_toArray, Gen.len a8 c8 hg1.out hg2.out]
        have hoG8 := hid (all_oneCell_toArray (Gen.one g a8 c8))
        have ZV := zeroGen
        have hZ := genZ_size
        generalize genZ 0 = Z at *
        go_upto_region 14 with (refine wpList_store_row rfl _ _ _ rfl wg.heap.size (g.cells a8 c8).toArray rfl rfl _ _ (heap_alloc_new wg _) hiG8a.out (hzG8 _ hZ) hoG8.out ?_)
        have LA := fun z => laid wg z (g.cells a8 c8).toArray 28
        generalize hW : World.setRow _ _ _ = wy
        replace LA := hid (hW ▸ LA _)
        have B9 := hid (Bg.out.trans (LA.out.2.mono (Nat.le_of_lt hwg)))
        have GP9 := hid (heap_keep GPg.out LA.out.2)
        have M9 := hid (heap_keep Mg.out LA.out.2)
        have HG8 := hid (HG8a.out.below LA.out.2)
        have HG1y := hid (HG1g.out.below LA.out.2)
        have HG3y := hid (HG3g.out.below LA.out.2)
        have R8 := hid (row_range LA.out.1)
        have R1y := hid (row_range GP9.out)
        obtain ⟨_, e3, _⟩ := Gen.at' a3 c3 hg1.out hg2.out
        have C1 := hid (gen_cell R1y.out E2.out)
        have C3 := hid (gen_cell (row_range M9.out) e3)
        have hw9 : P1 ≤ wy.heap.size := Nat.le_of_lt (Array.getElem?_eq_some_iff.1 GP9.out).1
        clear hW LA e3 Bg GPg Mg HG8a HG1g HG3g hzG8 ZV hZ
        generalize wg.heap.size = P8 at *
        refine wp_region_held_drew (S := fun w' => Below wy.heap.size wy w') (by kernel_rfl) ((Below.refl _ _).drew) (fun hHeld => ?_)
        try simp only [List.size_toArray, List.length_cons, List.length_nil, Nat.reduceAdd, Array.replicate_succ, Array.replicate_zero, List.push_toArray, List.nil_append, List.cons_append]
        refine wpAnyH_take (i := 0) (oi := { dst := some 67, op := Op.move (Operand.tmp 9), type := 30, pos := "law.go:41", after := #[], guard := none }) (v := ?vf1) rfl (by kernel_rfl) (by kernel_rfl) (by kernel_rfl) (fun _ _ _ h => h) (Or.inl ⟨by rfl, ?hyf1⟩) hHeld ?_
        case hyf1 => (intro w hSw; (try dsimp only at hSw); go_simp; (try with_reducible rfl))
        (try simp only [Act.put, List.setIfInBounds_toArray, List.set_cons_zero, List.set_cons_succ])
        refine wpAnyH_take (i := 1) (oi := { dst := some 68, op := Op.binOp BinOp.eql 30 (Operand.tmp 67) (Operand.const (Value.int IntKind.i64 0)) 30, type := 4, pos := "law.go:41", after := #[{ on := 0, ground := Ground.data }], guard := none }) (v := ?vf2) rfl (by kernel_rfl) (by kernel_rfl) (by kernel_rfl) (fun _ _ _ h => h) (Or.inl ⟨by rfl, ?hyf2⟩) hHeld ?_
        case hyf2 => (intro w hSw; (try dsimp only at hSw); go_simp; (try with_reducible rfl))
        (try simp only [Act.put, List.setIfInBounds_toArray, List.set_cons_zero, List.set_cons_succ])
        refine wpAnyH_take (i := 2) (oi := { dst := some 69, op := Op.move (Operand.tmp 68), type := 4, pos := "law.go:41", after := #[{ on := 1, ground := Ground.data }], guard := none }) (v := ?vf3) rfl (by kernel_rfl) (by kernel_rfl) (by kernel_rfl) (fun _ _ _ h => h) (Or.inl ⟨by rfl, ?hyf3⟩) hHeld ?_
        case hyf3 => (intro w hSw; (try dsimp only at hSw); go_simp; (try with_reducible rfl))
        (try simp only [Act.put, List.setIfInBounds_toArray, List.set_cons_zero, List.set_cons_succ])
        refine' wpAnyH_take (i := 3) (oi := { dst := some 70, op := Op.load 28 (Operand.tmp 8), type := 28, pos := "law.go:41", after := #[{ on := 2, ground := Ground.guard }], guard := some (2, true) }) (v := _) rfl (by kernel_rfl) (by kernel_rfl) (by kernel_rfl) (fun _ _ _ h => h) (yieldsIf_load_mid (by rfl) _ _ rfl P8 0 rfl (g.cells a8 c8) _ (fun _ h => range_keep h R8.out) Tryd.underlying28 rfl hiG8.out) hHeld ?_
        (try simp only [Act.put, List.setIfInBounds_toArray, List.set_cons_zero, List.set_cons_succ])
        refine' wpAnyH_take (i := 5) (oi := { dst := some 72, op := Op.load 28 (Operand.tmp 1), type := 28, pos := "law.go:41", after := #[{ on := 2, ground := Ground.guard }], guard := some (2, true) }) (v := _) rfl (by kernel_rfl) (by kernel_rfl) (by kernel_rfl) (fun _ _ _ h => h) (yieldsIf_load_mid (by rfl) _ _ rfl P1 0 rfl (g.cells a c) _ (fun _ h => range_keep h R1y.out) Tryd.underlying28 rfl hiG.out) hHeld ?_
        (try simp only [Act.put, List.setIfInBounds_toArray, List.set_cons_zero, List.set_cons_succ])
        refine wpAnyH_ready (rs := [4]) (by kernel_rfl) (by simp) ?_
        refine AllReadyH.cons (o := { dst := some 71, op := Op.call { callee := Callee.value (Operand.func 9), args := #[Operand.tmp 70], argTypes := #[28] }, type := 36, pos := "law.go:41", after := #[{ on := 3, ground := Ground.data }, { on := 2, ground := Ground.chain }, { on := 2, ground := Ground.guard }], guard := some (2, true) }) rfl (fun K hK => ?_) ?_
        go_simp; refine (plain_walk g a8 c8 hg1.out hg2.out _).mono ?_; rintro e wa ⟨rfl, ba⟩; have BA := hid ba; clear ba
        refine hK.out _ _ (by first | exact hHeld.trans (BA.out.mono hHeld.size) | exact BA.out) (fun hHeld => ?_)
        clear hK K
        (try simp only [List.setIfInBounds_toArray, List.set_cons_zero, List.set_cons_succ])
        refine wpAnyH_ready (rs := [6]) (by kernel_rfl) (by simp) ?_
        refine AllReadyH.cons (o := { dst := some 73, op := Op.call { callee := Callee.value (Operand.func 9), args := #[Operand.tmp 72], argTypes := #[28] }, type := 36, pos := "law.go:41", after := #[{ on := 5, ground := Ground.data }, { on := 4, ground := Ground.chain }, { on := 2, ground := Ground.guard }], guard := some (2, true) }) rfl (fun K hK => ?_) ?_
        go_simp; refine (plain_walk g a c hg1.out hg2.out _).mono ?_; rintro e wb ⟨rfl, bb⟩; have BB := hid bb; clear bb
        refine hK.out _ _ (by first | exact hHeld.trans (BB.out.mono hHeld.size) | exact BB.out) (fun hHeld => ?_)
        clear hK K
        (try simp only [List.setIfInBounds_toArray, List.set_cons_zero, List.set_cons_succ])
        refine wpAnyH_ready (rs := [7]) (by kernel_rfl) (by simp) ?_
        refine AllReadyH.cons (o := { dst := some 74, op := Op.call { callee := Callee.value (Operand.func 8), args := #[Operand.tmp 71, Operand.tmp 73], argTypes := #[36, 36] }, type := 4, pos := "law.go:41", after := #[{ on := 4, ground := Ground.data }, { on := 6, ground := Ground.data }, { on := 6, ground := Ground.chain }, { on := 2, ground := Ground.guard }], guard := some (2, true) }) rfl (fun K hK => ?_) ?_
        go_simp; refine (rsame_walk g a8 c8 a c _ (HG8.out.below hHeld) (HG1y.out.below hHeld)).mono ?_; rintro e wc ⟨rfl, bc⟩; have BC := hid bc; clear bc
        refine hK.out _ _ (by first | exact hHeld.trans (BC.out.mono hHeld.size) | exact BC.out) (fun hHeld => ?_)
        clear hK K
        (try simp only [List.setIfInBounds_toArray, List.set_cons_zero, List.set_cons_succ])
        refine wpAnyH_take (i := 8) (oi := { dst := some 75, op := Op.pick (Operand.tmp 69) (Operand.tmp 74) (Operand.const (Value.bool false)), type := 4, pos := "law.go:41", after := #[{ on := 2, ground := Ground.data }, { on := 7, ground := Ground.data }], guard := none }) (v := ?vf4) rfl (by kernel_rfl) (by kernel_rfl) (by kernel_rfl) (fun _ _ _ h => h) (Or.inl ⟨by rfl, ?hyf4⟩) hHeld ?_
        case hyf4 => (intro w hSw; (try dsimp only at hSw); go_simp; (try with_reducible rfl))
        (try simp only [Act.put, List.setIfInBounds_toArray, List.set_cons_zero, List.set_cons_succ])
        refine wpAnyH_take (i := 9) (oi := { dst := some 76, op := Op.move (Operand.tmp 75), type := 4, pos := "law.go:41", after := #[{ on := 8, ground := Ground.data }, { on := 7, ground := Ground.chain }], guard := none }) (v := ?vf5) rfl (by kernel_rfl) (by kernel_rfl) (by kernel_rfl) (fun _ _ _ h => h) (Or.inl ⟨by rfl, ?hyf5⟩) hHeld ?_
        case hyf5 => (intro w hSw; (try dsimp only at hSw); go_simp; (try with_reducible rfl))
        (try simp only [Act.put, List.setIfInBounds_toArray, List.set_cons_zero, List.set_cons_succ])
        refine wpAnyH_take (i := 10) (oi := { dst := some 77, op := Op.fieldAddr 28 (Operand.tmp 3) 1, type := 0, pos := "law.go:41", after := #[{ on := 9, ground := Ground.guard }], guard := some (9, true) }) (v := ?vf6) rfl (by kernel_rfl) (by kernel_rfl) (by kernel_rfl) (fun _ _ _ h => h) (Or.inl ⟨by rfl, ?hyf6⟩) hHeld ?_
        case hyf6 => (intro w hSw; (try dsimp only at hSw); go_simp; (try with_reducible rfl))
        (try simp only [Act.put, List.setIfInBounds_toArray, List.set_cons_zero, List.set_cons_succ])
        refine wpAnyH_take (i := 11) (oi := { dst := some 78, op := Op.load 26 (Operand.tmp 77), type := 26, pos := "law.go:41", after := #[{ on := 10, ground := Ground.data }, { on := 9, ground := Ground.guard }], guard := some (9, true) }) (v := .slice a3 g.nm.length c3) rfl (by kernel_rfl) (by kernel_rfl) (by kernel_rfl) (fun _ _ _ h => h) (Or.inl ⟨by rfl, fun w h => by have hc := cell_keep h C3.out; go_simp⟩) hHeld ?_
        (try simp only [Act.put, List.setIfInBounds_toArray, List.set_cons_zero, List.set_cons_succ])
        refine wpAnyH_take (i := 12) (oi := { dst := some 79, op := Op.fieldAddr 28 (Operand.tmp 1) 1, type := 0, pos := "law.go:41", after := #[{ on := 9, ground := Ground.guard }], guard := some (9, true) }) (v := ?vf7) rfl (by kernel_rfl) (by kernel_rfl) (by kernel_rfl) (fun _ _ _ h => h) (Or.inl ⟨by rfl, ?hyf7⟩) hHeld ?_
        case hyf7 => (intro w hSw; (try dsimp only at hSw); go_simp; (try with_reducible rfl))
        (try simp only [Act.put, List.setIfInBounds_toArray, List.set_cons_zero, List.set_cons_succ])
        refine wpAnyH_take (i := 13) (oi := { dst := some 80, op := Op.load 26 (Operand.tmp 79), type := 26, pos := "law.go:41", after := #[{ on := 12, ground := Ground.data }, { on := 9, ground := Ground.guard }], guard := some (9, true) }) (v := .slice a g.nm.length c) rfl (by kernel_rfl) (by kernel_rfl) (by kernel_rfl) (fun _ _ _ h => h) (Or.inl ⟨by rfl, fun w h => by have hc := cell_keep h C1.out; go_simp⟩) hHeld ?_
        (try simp only [Act.put, List.setIfInBounds_toArray, List.set_cons_zero, List.set_cons_succ])
        refine wpAnyH_ready (rs := [14]) (by kernel_rfl) (by simp) ?_
        refine AllReadyH.cons (o := { dst := some 81, op := Op.call { callee := Callee.value (Operand.func 10), args := #[Operand.tmp 78, Operand.tmp 80], argTypes := #[26, 26] }, type := 4, pos := "law.go:41", after := #[{ on := 11, ground := Ground.data }, { on := 13, ground := Ground.data }, { on := 9, ground := Ground.chain }, { on := 9, ground := Ground.guard }], guard := some (9, true) }) rfl (fun K hK => ?_) ?_
        go_simp; refine (same_self a3 a g.nm.length c3 g.nm.length c g.nm hgn.out _ (HG3y.out.sl.below hHeld) (HG1y.out.sl.below hHeld)).mono ?_; rintro e wd ⟨rfl, rfl⟩
        refine hK.out _ _ (hHeld) (fun hHeld => ?_)
        clear hK K
        (try simp only [List.setIfInBounds_toArray, List.set_cons_zero, List.set_cons_succ])
        refine wpAnyH_take (i := 15) (oi := { dst := some 82, op := Op.pick (Operand.tmp 76) (Operand.tmp 81) (Operand.const (Value.bool false)), type := 4, pos := "law.go:41", after := #[{ on := 9, ground := Ground.data }, { on := 14, ground := Ground.data }], guard := none }) (v := ?vf8) rfl (by kernel_rfl) (by kernel_rfl) (by kernel_rfl) (fun _ _ _ h => h) (Or.inl ⟨by rfl, ?hyf8⟩) hHeld ?_
        case hyf8 => (intro w hSw; (try dsimp only at hSw); go_simp; (try with_reducible rfl))
        (try simp only [Act.put, List.setIfInBounds_toArray, List.set_cons_zero, List.set_cons_succ])
        refine wpAnyH_take (i := 16) (oi := { dst := some 2, op := Op.assign (Operand.tmp 82), type := 4, pos := "law.go:41", after := #[{ on := 15, ground := Ground.data }, { on := 14, ground := Ground.chain }, { on := 0, ground := Ground.phase }, { on := 1, ground := Ground.phase }, { on := 2, ground := Ground.phase }, { on := 3, ground := Ground.phase }, { on := 4, ground := Ground.phase }, { on := 5, ground := Ground.phase }, { on := 6, ground := Ground.phase }, { on := 7, ground := Ground.phase }, { on := 8, ground := Ground.phase }, { on := 9, ground := Ground.phase }, { on := 10, ground := Ground.phase }, { on := 11, ground := Ground.phase }, { on := 12, ground := Ground.phase }, { on := 13, ground := Ground.phase }, { on := 14, ground := Ground.phase }, { on := 15, ground := Ground.phase }], guard := none }) (v := ?vf9) rfl (by kernel_rfl) (by kernel_rfl) (by kernel_rfl) (fun _ _ _ h => h) (Or.inl ⟨by rfl, ?hyf9⟩) hHeld ?_
        case hyf9 => (intro w hSw; (try dsimp only at hSw); go_simp; (try with_reducible rfl))
        (try simp only [Act.put, List.setIfInBounds_toArray, List.set_cons_zero, List.set_cons_succ])
        refine wpAnyH_done (by kernel_rfl) ?_ _
        rotate_left
        exact AllReadyH.nil
        exact AllReadyH.nil
        exact AllReadyH.nil
        exact AllReadyH.nil
        all_goals
          have Bf := hid (B9.out.trans (hHeld.mono hw9))
          clear hHeld
          go_wp2
          go_ret
          exact ⟨rfl, hP1 ▸ Bf.out⟩
      · have hidg : idG g = pzero := by unfold idG; rw [if_neg (by rw [← HCG.out]; exact hc0)]
        have t3 : ((cg : Int) == 0) = false := by rw [beq_eq_false_iff_ne]; omega
        have t4 : ((cg : Int) != 0) = true := by rw [bne_iff_ne]; omega
        have t4' : (cg == 0) = false := by rw [beq_eq_false_iff_ne]; omega
        have GI := fun w h1 h2 => gid_walk g a c w h1 h2
        rw [hidg] at GI
        have GI := hid GI
        have e1 := idz_guard pzero
        have e2 := idz_eql
        have rA := row_range GPy.out
        clear hidg
        go_wp2_with (refine wpList_load_mid rfl _ _ rfl P1 0 rfl (g.cells a c) _ rA Tryd.underlying28 rfl hiG.out ?_)
        refine (GI.out _ HG1y.out (HT.out.below (hP1 ▸ By.out))).mono ?_
        rintro e wi ⟨rfl, bi⟩
        have Bi := hid (By.out.trans (bi.mono (Nat.le_of_lt hwy)))
        clear bi rA
        go_wp2
        go_ret
        exact ⟨rfl, hP1 ▸ Bi.out⟩
theorem lawWrites' (cs : Array Value) (x : GenX) (w : World) (e : Value.agg cs = .agg x.cells.toArray) (s : x.ok w) (ht : Tabs w) :
    Calls Tryd.prog 4 #[.agg cs] w fun e w' => e = .returned (.bool true) ∧ Below w.heap.size w w' := by
  rw [e, GenX.cells_eq]
  exact lawWrites _ _ _ w (GenX.good s) ht
end Go.Proofs.YtgaidleepjkldaaDoor

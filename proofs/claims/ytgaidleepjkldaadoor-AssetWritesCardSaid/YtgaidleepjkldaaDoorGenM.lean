/- The walks of the reference's Encode and Id of a genesis. -/
import Derived.Test.YtgaidleepjkldaaDoorGenI
import Derived.Test.YtgaidleepjkldaaDoorEncR
import Derived.Test.YtgaidleepjkldaaDoorRtag
namespace Go.Proofs.YtgaidleepjkldaaDoor
open Go.RowKit

set_option maxRecDepth 100000 in
set_option maxHeartbeats 4000000 in
theorem rgenc_walk (g : Gen) (a : Option Addr) (c : Nat) (w : World) (h : g.good w a c) :
    Calls Tryd.prog 12 #[.agg (g.cells a c).toArray] w (GEnc w g) := by
  have b0 := (Below.refl w.heap.size w).alloc (Nat.le_refl _) (.cells (g.cells a c).toArray 36)
  have hr := range_new w (g.cells a c).toArray 36
  have CW := fun wx => hid (rcheck_walk g a c h.tl h.ml wx)
  have h1 := h.below b0
  obtain ⟨e1, e2, e3, _, e5, e6⟩ := Gen.at' a c h.tl h.ml
  have c1 := gen_cell hr e1
  have c2 := gen_cell hr e2
  have c3 := gen_cell hr e3
  have rP := gen_range hr 0 32
  rw [List.drop_zero, List.toList_toArray, e5] at rP
  have rM := gen_range hr 34 32
  rw [List.toList_toArray, e6] at rM
  have hiG := hid (show (Tryd.prog.info? 36).map (·.size) = some (g.cells a c).length by rw [Gen.len a c h.tl h.ml]; exact infoRGen)
  have B0 := hid b0
  clear e1 e2 e3 e5 e6 b0 h
  go_enter Tryd.func12, Tryd.ntmps12
  go_wp2_with (refine wpList_load_mid rfl _ _ rfl w.heap.size 0 rfl (g.cells a c) _ hr Tryd.underlying36 rfl hiG.out ?_)
  refine (CW _).out.mono ?_
  rintro e w1 ⟨rfl, b1⟩
  have B1 := hid (bstep B0.out b1)
  have h2 := h1.below b1
  have f1 := range_keep b1 rP
  have f0 := cell_keep b1 c1
  have f2 := cell_keep b1 c2
  have f3 := cell_keep b1 c3
  have fm := range_keep b1 rM
  clear b1 h1 hr rP rM c1 c2 c3 B0 CW hiG
  by_cases hc : g.check = 0
  · have hc' := hid hc
    unfold Gen.check at hc
    split at hc
    · omega
    · rename_i hn1
      split at hc
      · omega
      · rename_i hn2
        obtain ⟨tx, oz, nm, me, kz⟩ := g
        simp only at hn1 hn2 f0 f1 f2 f3 fm hc' ⊢
        obtain ⟨o, rfl⟩ := Int.eq_ofNat_of_zero_le (show 0 ≤ oz by omega)
        obtain ⟨k, rfl⟩ := Int.eq_ofNat_of_zero_le (show 0 ≤ kz by omega)
        have ho : o < 256 := by omega
        have hk : k < 256 := by omega
        have htx : tx.length = 32 := h2.tl
        have hml := hid (show me.length = 32 from h2.ml)
        have hmb := hid (show ∀ d ∈ me, d < 256 from h2.mb)
        have hnb := hid (show ∀ d ∈ nm, d < 256 from h2.nb)
        have hnl := hid (show nm.length ≤ 140737488351232 from h2.nl)
        have hkb := hid hk
        have hPb := hid (ptb_lt h2.tb ho)
        have hl36 := hid (ptb_len o htx)
        have f4 : Sl .u8 w1 a nm.length c nm := h2.sl
        have f5 : Sl .u8 w1 (some ⟨w.heap.size, 34, none⟩) 32 32 me := ⟨by rw [nums_length, hml.out], Nat.le_refl _, by decide, (fun e => by cases e), w.heap.size, 34, fun _ => rfl, fm⟩
        have PK := fun wx => hid (rpoint_walk tx o htx ho wx)
        have hi22 : (Tryd.prog.info? 22).map (·.size) = some (nums .u8 tx).length := by rw [nums_length, htx]; exact info32
        have un22 := Tryd.underlying22
        have hE : ∀ aA cA a c G gk, encE (List.map LR.pr [⟨0, aA, cA, ptb tx o⟩, ⟨2, a, c, nm⟩, ⟨4, some ⟨G, 34, none⟩, 32, me⟩, ⟨6, some ⟨gk, 0, none⟩, 1, [k]⟩]) = 0 := fun _ _ _ _ _ _ => gen_enc (p := ptb tx o) (nm := nm) (me := me) hl36.out (by omega) hml.out
        have ew : IntKind.u8.wrap (k : Int) = (k : Int) := u8w hk
        have tc : ((0 : Int) != 0) = false := rfl
        rw [hc'.out]
        obtain ⟨G, hG⟩ : ∃ G, G = w.heap.size := ⟨_, rfl⟩
        rw [← hG] at f0 f1 f2 f3 f5 ⊢
        generalize nums .u8 tx = TL at *
        clear hc hn1 hn2 h2 fm hG
        go_wp2_with fail
        have keepS : ∀ X Y : World, Below X.heap.size X Y → (X.rangeAt G 0 TL ∧ X.cell? ⟨G, 32, none⟩ = some (.int .i64 (o : Int)) ∧ X.cell? ⟨G, 33, none⟩ = some (.slice a nm.length c) ∧ X.cell? ⟨G, 66, none⟩ = some (.int .i64 (k : Int)) ∧ Sl .u8 X a nm.length c nm ∧ Sl .u8 X (some ⟨G, 34, none⟩) 32 32 me) → (Y.rangeAt G 0 TL ∧ Y.cell? ⟨G, 32, none⟩ = some (.int .i64 (o : Int)) ∧ Y.cell? ⟨G, 33, none⟩ = some (.slice a nm.length c) ∧ Y.cell? ⟨G, 66, none⟩ = some (.int .i64 (k : Int)) ∧ Sl .u8 Y a nm.length c nm ∧ Sl .u8 Y (some ⟨G, 34, none⟩) 32 32 me) :=
          fun X Y hb h => ⟨range_keep hb h.1, cell_keep hb h.2.1, cell_keep hb h.2.2.1, cell_keep hb h.2.2.2.1, h.2.2.2.2.1.below hb, h.2.2.2.2.2.below hb⟩
        refine wp_region_held_drew (S := fun w' => w'.rangeAt G 0 TL ∧ w'.cell? ⟨G, 32, none⟩ = some (.int .i64 (o : Int)) ∧ w'.cell? ⟨G, 33, none⟩ = some (.slice a nm.length c) ∧ w'.cell? ⟨G, 66, none⟩ = some (.int .i64 (k : Int)) ∧ Sl .u8 w' a nm.length c nm ∧ Sl .u8 w' (some ⟨G, 34, none⟩) 32 32 me) (by kernel_rfl) (⟨f1, f0, f2, f3, f4, f5⟩) (fun hHeld => ?_)
        try simp only [List.size_toArray, List.length_cons, List.length_nil, Nat.reduceAdd, Array.replicate_succ, Array.replicate_zero, List.push_toArray, List.nil_append, List.cons_append]
        refine wpAnyH_take (i := 0) (oi := { dst := some 10, op := Op.fieldAddr 36 (Operand.tmp 1) 0, type := 0, pos := "ref.go:40", after := #[], guard := none }) (v := ?v1) rfl (by kernel_rfl) (by kernel_rfl) (by kernel_rfl) (fun _ _ _ h => h) (Or.inl ⟨by rfl, ?hy1⟩) hHeld ?_
        case hy1 => (intro w hSw; (try dsimp only at hSw); go_simp; (try with_reducible rfl))
        (try simp only [Act.put, List.setIfInBounds_toArray, List.set_cons_zero, List.set_cons_succ])
        refine' wpAnyH_take (i := 1) (oi := { dst := some 11, op := Op.load 22 (Operand.tmp 10), type := 22, pos := "ref.go:40", after := #[{ on := 0, ground := Ground.data }], guard := none }) (v := _) rfl (by kernel_rfl) (by kernel_rfl) (by kernel_rfl) (fun _ _ _ h => h) (yieldsIf_load_mid (by rfl) _ _ rfl G 0 rfl TL _ (fun _ h => h.1) un22 rfl hi22) hHeld ?_
        (try simp only [Act.put, List.setIfInBounds_toArray, List.set_cons_zero, List.set_cons_succ])
        refine wpAnyH_take (i := 2) (oi := { dst := some 12, op := Op.fieldAddr 36 (Operand.tmp 1) 1, type := 0, pos := "ref.go:40", after := #[], guard := none }) (v := ?v2) rfl (by kernel_rfl) (by kernel_rfl) (by kernel_rfl) (fun _ _ _ h => h) (Or.inl ⟨by rfl, ?hy2⟩) hHeld ?_
        case hy2 => (intro w hSw; (try dsimp only at hSw); go_simp; (try with_reducible rfl))
        (try simp only [Act.put, List.setIfInBounds_toArray, List.set_cons_zero, List.set_cons_succ])
        refine wpAnyH_take (i := 3) (oi := { dst := some 13, op := Op.load 3 (Operand.tmp 12), type := 3, pos := "ref.go:40", after := #[{ on := 2, ground := Ground.data }], guard := none }) (v := ?v3) rfl (by kernel_rfl) (by kernel_rfl) (by kernel_rfl) (fun _ _ _ h => h) (Or.inl ⟨by rfl, ?hy3⟩) hHeld ?_
        case hy3 => (intro w hSw; (try dsimp only at hSw); go_simp; (try with_reducible rfl))
        (try simp only [Act.put, List.setIfInBounds_toArray, List.set_cons_zero, List.set_cons_succ])
        refine wpAnyH_take (i := 6) (oi := { dst := some 16, op := Op.fieldAddr 36 (Operand.tmp 1) 2, type := 0, pos := "ref.go:40", after := #[], guard := none }) (v := ?v4) rfl (by kernel_rfl) (by kernel_rfl) (by kernel_rfl) (fun _ _ _ h => h) (Or.inl ⟨by rfl, ?hy4⟩) hHeld ?_
        case hy4 => (intro w hSw; (try dsimp only at hSw); go_simp; (try with_reducible rfl))
        (try simp only [Act.put, List.setIfInBounds_toArray, List.set_cons_zero, List.set_cons_succ])
        refine wpAnyH_take (i := 7) (oi := { dst := some 17, op := Op.load 26 (Operand.tmp 16), type := 26, pos := "ref.go:40", after := #[{ on := 6, ground := Ground.data }], guard := none }) (v := ?v5) rfl (by kernel_rfl) (by kernel_rfl) (by kernel_rfl) (fun _ _ _ h => h) (Or.inl ⟨by rfl, ?hy5⟩) hHeld ?_
        case hy5 => (intro w hSw; (try dsimp only at hSw); go_simp; (try with_reducible rfl))
        (try simp only [Act.put, List.setIfInBounds_toArray, List.set_cons_zero, List.set_cons_succ])
        refine wpAnyH_take (i := 8) (oi := { dst := some 18, op := Op.build 66 #[(0, Operand.const (Value.int IntKind.u64 2)), (1, Operand.tmp 17)], type := 66, pos := "ref.go:40", after := #[{ on := 7, ground := Ground.data }], guard := none }) (v := ?v6) rfl (by kernel_rfl) (by kernel_rfl) (by kernel_rfl) (fun _ _ _ h => h) (Or.inl ⟨by rfl, ?hy6⟩) hHeld ?_
        case hy6 => (intro w hSw; (try dsimp only at hSw); go_simp; (try with_reducible rfl))
        (try simp only [Act.put, List.setIfInBounds_toArray, List.set_cons_zero, List.set_cons_succ])
        refine wpAnyH_take (i := 9) (oi := { dst := some 19, op := Op.fieldAddr 36 (Operand.tmp 1) 3, type := 0, pos := "ref.go:40", after := #[], guard := none }) (v := ?v7) rfl (by kernel_rfl) (by kernel_rfl) (by kernel_rfl) (fun _ _ _ h => h) (Or.inl ⟨by rfl, ?hy7⟩) hHeld ?_
        case hy7 => (intro w hSw; (try dsimp only at hSw); go_simp; (try with_reducible rfl))
        (try simp only [Act.put, List.setIfInBounds_toArray, List.set_cons_zero, List.set_cons_succ])
        refine wpAnyH_take (i := 10) (oi := { dst := some 20, op := Op.slice 22 (Operand.tmp 19) none none none, type := 26, pos := "ref.go:40", after := #[{ on := 9, ground := Ground.data }], guard := none }) (v := ?v8) rfl (by kernel_rfl) (by kernel_rfl) (by kernel_rfl) (fun _ _ _ h => h) (Or.inl ⟨by rfl, ?hy8⟩) hHeld ?_
        case hy8 => (intro w hSw; (try dsimp only at hSw); go_simp; (try with_reducible rfl))
        (try simp only [Act.put, List.setIfInBounds_toArray, List.set_cons_zero, List.set_cons_succ])
        refine wpAnyH_take (i := 11) (oi := { dst := some 21, op := Op.build 66 #[(0, Operand.const (Value.int IntKind.u64 4)), (1, Operand.tmp 20)], type := 66, pos := "ref.go:40", after := #[{ on := 10, ground := Ground.data }], guard := none }) (v := ?v9) rfl (by kernel_rfl) (by kernel_rfl) (by kernel_rfl) (fun _ _ _ h => h) (Or.inl ⟨by rfl, ?hy9⟩) hHeld ?_
        case hy9 => (intro w hSw; (try dsimp only at hSw); go_simp; (try with_reducible rfl))
        (try simp only [Act.put, List.setIfInBounds_toArray, List.set_cons_zero, List.set_cons_succ])
        refine wpAnyH_take (i := 12) (oi := { dst := some 22, op := Op.fieldAddr 36 (Operand.tmp 1) 4, type := 0, pos := "ref.go:40", after := #[], guard := none }) (v := ?v10) rfl (by kernel_rfl) (by kernel_rfl) (by kernel_rfl) (fun _ _ _ h => h) (Or.inl ⟨by rfl, ?hy10⟩) hHeld ?_
        case hy10 => (intro w hSw; (try dsimp only at hSw); go_simp; (try with_reducible rfl))
        (try simp only [Act.put, List.setIfInBounds_toArray, List.set_cons_zero, List.set_cons_succ])
        refine wpAnyH_take (i := 13) (oi := { dst := some 23, op := Op.load 3 (Operand.tmp 22), type := 3, pos := "ref.go:40", after := #[{ on := 12, ground := Ground.data }], guard := none }) (v := ?v11) rfl (by kernel_rfl) (by kernel_rfl) (by kernel_rfl) (fun _ _ _ h => h) (Or.inl ⟨by rfl, ?hy11⟩) hHeld ?_
        case hy11 => (intro w hSw; (try dsimp only at hSw); go_simp; (try with_reducible rfl))
        (try simp only [Act.put, List.setIfInBounds_toArray, List.set_cons_zero, List.set_cons_succ])
        refine wpAnyH_take (i := 14) (oi := { dst := some 24, op := Op.convert 3 5 (Operand.tmp 23), type := 5, pos := "ref.go:40", after := #[{ on := 13, ground := Ground.data }], guard := none }) (v := ?v12) rfl (by kernel_rfl) (by kernel_rfl) (by kernel_rfl) (fun _ _ _ h => h) (Or.inl ⟨by rfl, ?hy12⟩) hHeld ?_
        case hy12 => (intro w hSw; (try dsimp only at hSw); go_simp; (try with_reducible rfl))
        (try simp only [Act.put, List.setIfInBounds_toArray, List.set_cons_zero, List.set_cons_succ])
        refine wpAnyH_ready (rs := [4, 15]) (by kernel_rfl) (by simp) ?_
        refine AllReadyH.cons (o := { dst := some 14, op := Op.call { callee := Callee.value (Operand.func 23), args := #[Operand.tmp 11, Operand.tmp 13], argTypes := #[22, 3] }, type := 26, pos := "ref.go:40", after := #[{ on := 1, ground := Ground.data }, { on := 3, ground := Ground.data }], guard := none }) rfl (fun K hK => ?_) ?_
        go_simp; refine (PK _).out.mono ?_; rintro e wA ⟨vA, rfl, _, oA, bA⟩; obtain ⟨aA, cA, rfl, sA⟩ := SlV.of_owns oA; rw [hl36.out] at sA ⊢; clear oA; (try have sK' := sK.out.below bA)
        refine hK.out _ _ (keepS _ _ bA hHeld) (fun hHeld => ?_)
        clear hK K
        (try simp only [List.setIfInBounds_toArray, List.set_cons_zero, List.set_cons_succ])
        refine wpAnyH_take (i := 5) (oi := { dst := some 15, op := Op.build 66 #[(0, Operand.const (Value.int IntKind.u64 0)), (1, Operand.tmp 14)], type := 66, pos := "ref.go:40", after := #[{ on := 4, ground := Ground.data }], guard := none }) (v := ?v13) rfl (by kernel_rfl) (by kernel_rfl) (by kernel_rfl) (fun _ _ _ h => h) (Or.inl ⟨by rfl, ?hy13⟩) hHeld ?_
        case hy13 => (intro w hSw; (try dsimp only at hSw); go_simp; (try with_reducible rfl))
        (try simp only [Act.put, List.setIfInBounds_toArray, List.set_cons_zero, List.set_cons_succ])
        refine wpAnyH_ready (rs := [15]) (by kernel_rfl) (by simp) ?_
        refine AllReadyH.cons (o := { dst := some 25, op := Op.buildSlice 26 1 #[(0, Operand.tmp 24)], type := 26, pos := "ref.go:40", after := #[{ on := 14, ground := Ground.data }], guard := none }) rfl (fun K hK => ?_) ?_
        go_simp; (first | refine newK k rfl ?_ | refine newKd k rfl ?_); intro wK sK bK; (try have sA' := sA.below bK.out)
        refine hK.out _ _ (keepS _ _ bK.out hHeld) (fun hHeld => ?_)
        clear hK K
        (try simp only [List.setIfInBounds_toArray, List.set_cons_zero, List.set_cons_succ])
        refine wpAnyH_take (i := 16) (oi := { dst := some 26, op := Op.build 66 #[(0, Operand.const (Value.int IntKind.u64 6)), (1, Operand.tmp 25)], type := 66, pos := "ref.go:40", after := #[{ on := 15, ground := Ground.data }], guard := none }) (v := ?v14) rfl (by kernel_rfl) (by kernel_rfl) (by kernel_rfl) (fun _ _ _ h => h) (Or.inl ⟨by rfl, ?hy14⟩) hHeld ?_
        case hy14 => (intro w hSw; (try dsimp only at hSw); go_simp; (try with_reducible rfl))
        (try simp only [Act.put, List.setIfInBounds_toArray, List.set_cons_zero, List.set_cons_succ])
        refine wpAnyH_ready (rs := [17]) (by kernel_rfl) (by simp) ?_
        refine AllReadyH.cons (o := { dst := some 27, op := Op.buildSlice 67 4 #[(0, Operand.tmp 15), (1, Operand.tmp 18), (2, Operand.tmp 21), (3, Operand.tmp 26)], type := 67, pos := "ref.go:40", after := #[{ on := 5, ground := Ground.data }, { on := 8, ground := Ground.data }, { on := 11, ground := Ground.data }, { on := 16, ground := Ground.data }], guard := none }) rfl (fun K hK => ?_) ?_
        go_simp; (first | refine newG hl36.out hml.out hPb.out hnb.out hnl.out hmb.out hkb.out sA' hHeld.2.2.2.2.1 hHeld.2.2.2.2.2 sK.out ?_ | refine newG hl36.out hml.out hPb.out hnb.out hnl.out hmb.out hkb.out sA hHeld.2.2.2.2.1 hHeld.2.2.2.2.2 sK' ?_); intro wR rR bR
        refine hK.out _ _ (keepS _ _ bR.out hHeld) (fun hHeld => ?_)
        clear hK K
        (try simp only [List.setIfInBounds_toArray, List.set_cons_zero, List.set_cons_succ])
        refine wpAnyH_ready (rs := [18]) (by kernel_rfl) (by simp) ?_
        refine AllReadyH.cons (o := { dst := some 28, op := Op.call { callee := Callee.value (Operand.func 22), args := #[Operand.tmp 27], argTypes := #[67] }, type := 41, pos := "ref.go:40", after := #[{ on := 17, ground := Ground.data }, { on := 4, ground := Ground.chain }], guard := none }) rfl (fun K hK => ?_) ?_
        go_simp; refine (renc_walk _ _ _ _ _ rR.out).mono ?_; rintro e wE ⟨vE, rfl, sE, bE⟩; rw [hE] at sE ⊢; rw [if_pos rfl] at sE
        refine hK.out _ _ (keepS _ _ bE hHeld) (fun hHeld => ?_)
        clear hK K
        (try simp only [List.setIfInBounds_toArray, List.set_cons_zero, List.set_cons_succ])
        refine wpAnyH_take (i := 19) (oi := { dst := some 29, op := Op.extract (Operand.tmp 28) 0, type := 26, pos := "ref.go:40", after := #[{ on := 18, ground := Ground.data }], guard := none }) (v := ?v15) rfl (by kernel_rfl) (by kernel_rfl) (by kernel_rfl) (fun _ _ _ h => h) (Or.inl ⟨by rfl, ?hy15⟩) hHeld ?_
        case hy15 => (intro w hSw; (try dsimp only at hSw); go_simp; (try with_reducible rfl))
        (try simp only [Act.put, List.setIfInBounds_toArray, List.set_cons_zero, List.set_cons_succ])
        refine wpAnyH_take (i := 20) (oi := { dst := some 30, op := Op.extract (Operand.tmp 28) 1, type := 3, pos := "ref.go:40", after := #[{ on := 18, ground := Ground.data }], guard := none }) (v := ?v16) rfl (by kernel_rfl) (by kernel_rfl) (by kernel_rfl) (fun _ _ _ h => h) (Or.inl ⟨by rfl, ?hy16⟩) hHeld ?_
        case hy16 => (intro w hSw; (try dsimp only at hSw); go_simp; (try with_reducible rfl))
        (try simp only [Act.put, List.setIfInBounds_toArray, List.set_cons_zero, List.set_cons_succ])
        refine wpAnyH_take (i := 21) (oi := { dst := some 2, op := Op.assign (Operand.tmp 29), type := 26, pos := "ref.go:40", after := #[{ on := 19, ground := Ground.data }, { on := 18, ground := Ground.chain }, { on := 0, ground := Ground.phase }, { on := 1, ground := Ground.phase }, { on := 2, ground := Ground.phase }, { on := 3, ground := Ground.phase }, { on := 4, ground := Ground.phase }, { on := 5, ground := Ground.phase }, { on := 6, ground := Ground.phase }, { on := 7, ground := Ground.phase }, { on := 8, ground := Ground.phase }, { on := 9, ground := Ground.phase }, { on := 10, ground := Ground.phase }, { on := 11, ground := Ground.phase }, { on := 12, ground := Ground.phase }, { on := 13, ground := Ground.phase }, { on := 14, ground := Ground.phase }, { on := 15, ground := Ground.phase }, { on := 16, ground := Ground.phase }, { on := 17, ground := Ground.phase }, { on := 18, ground := Ground.phase }, { on := 19, ground := Ground.phase }, { on := 20, ground := Ground.phase }], guard := none }) (v := ?v17) rfl (by kernel_rfl) (by kernel_rfl) (by kernel_rfl) (fun _ _ _ h => h) (Or.inl ⟨by rfl, ?hy17⟩) hHeld ?_
        case hy17 => (intro w hSw; (try dsimp only at hSw); go_simp; (try with_reducible rfl))
        (try simp only [Act.put, List.setIfInBounds_toArray, List.set_cons_zero, List.set_cons_succ])
        refine wpAnyH_take (i := 22) (oi := { dst := some 3, op := Op.assign (Operand.tmp 30), type := 3, pos := "ref.go:40", after := #[{ on := 20, ground := Ground.data }, { on := 21, ground := Ground.chain }, { on := 0, ground := Ground.phase }, { on := 1, ground := Ground.phase }, { on := 2, ground := Ground.phase }, { on := 3, ground := Ground.phase }, { on := 4, ground := Ground.phase }, { on := 5, ground := Ground.phase }, { on := 6, ground := Ground.phase }, { on := 7, ground := Ground.phase }, { on := 8, ground := Ground.phase }, { on := 9, ground := Ground.phase }, { on := 10, ground := Ground.phase }, { on := 11, ground := Ground.phase }, { on := 12, ground := Ground.phase }, { on := 13, ground := Ground.phase }, { on := 14, ground := Ground.phase }, { on := 15, ground := Ground.phase }, { on := 16, ground := Ground.phase }, { on := 17, ground := Ground.phase }, { on := 18, ground := Ground.phase }, { on := 19, ground := Ground.phase }, { on := 20, ground := Ground.phase }, { on := 21, ground := Ground.phase }], guard := none }) (v := ?v18) rfl (by kernel_rfl) (by kernel_rfl) (by kernel_rfl) (fun _ _ _ h => h) (Or.inl ⟨by rfl, ?hy18⟩) hHeld ?_
        case hy18 => (intro w hSw; (try dsimp only at hSw); go_simp; (try with_reducible rfl))
        (try simp only [Act.put, List.setIfInBounds_toArray, List.set_cons_zero, List.set_cons_succ])
        refine wpAnyH_done (by kernel_rfl) ?_ _
        rotate_left
        exact AllReadyH.nil
        exact AllReadyH.nil
        exact AllReadyH.nil
        refine AllReadyH.cons (o := { dst := some 25, op := Op.buildSlice 26 1 #[(0, Operand.tmp 24)], type := 26, pos := "ref.go:40", after := #[{ on := 14, ground := Ground.data }], guard := none }) rfl (fun K hK => ?_) ?_
        go_simp; (first | refine newK k rfl ?_ | refine newKd k rfl ?_); intro wK sK bK; (try have sA' := sA.below bK.out)
        refine hK.out _ _ (keepS _ _ bK.out hHeld) (fun hHeld => ?_)
        clear hK K
        (try simp only [List.setIfInBounds_toArray, List.set_cons_zero, List.set_cons_succ])
        refine wpAnyH_take (i := 16) (oi := { dst := some 26, op := Op.build 66 #[(0, Operand.const (Value.int IntKind.u64 6)), (1, Operand.tmp 25)], type := 66, pos := "ref.go:40", after := #[{ on := 15, ground := Ground.data }], guard := none }) (v := ?v19) rfl (by kernel_rfl) (by kernel_rfl) (by kernel_rfl) (fun _ _ _ h => h) (Or.inl ⟨by rfl, ?hy19⟩) hHeld ?_
        case hy19 => (intro w hSw; (try dsimp only at hSw); go_simp; (try with_reducible rfl))
        (try simp only [Act.put, List.setIfInBounds_toArray, List.set_cons_zero, List.set_cons_succ])
        refine wpAnyH_ready (rs := [4]) (by kernel_rfl) (by simp) ?_
        refine AllReadyH.cons (o := { dst := some 14, op := Op.call { callee := Callee.value (Operand.func 23), args := #[Operand.tmp 11, Operand.tmp 13], argTypes := #[22, 3] }, type := 26, pos := "ref.go:40", after := #[{ on := 1, ground := Ground.data }, { on := 3, ground := Ground.data }], guard := none }) rfl (fun K hK => ?_) ?_
        go_simp; refine (PK _).out.mono ?_; rintro e wA ⟨vA, rfl, _, oA, bA⟩; obtain ⟨aA, cA, rfl, sA⟩ := SlV.of_owns oA; rw [hl36.out] at sA ⊢; clear oA; (try have sK' := sK.out.below bA)
        refine hK.out _ _ (keepS _ _ bA hHeld) (fun hHeld => ?_)
        clear hK K
        (try simp only [List.setIfInBounds_toArray, List.set_cons_zero, List.set_cons_succ])
        refine wpAnyH_take (i := 5) (oi := { dst := some 15, op := Op.build 66 #[(0, Operand.const (Value.int IntKind.u64 0)), (1, Operand.tmp 14)], type := 66, pos := "ref.go:40", after := #[{ on := 4, ground := Ground.data }], guard := none }) (v := ?v20) rfl (by kernel_rfl) (by kernel_rfl) (by kernel_rfl) (fun _ _ _ h => h) (Or.inl ⟨by rfl, ?hy20⟩) hHeld ?_
        case hy20 => (intro w hSw; (try dsimp only at hSw); go_simp; (try with_reducible rfl))
        (try simp only [Act.put, List.setIfInBounds_toArray, List.set_cons_zero, List.set_cons_succ])
        refine wpAnyH_ready (rs := [17]) (by kernel_rfl) (by simp) ?_
        refine AllReadyH.cons (o := { dst := some 27, op := Op.buildSlice 67 4 #[(0, Operand.tmp 15), (1, Operand.tmp 18), (2, Operand.tmp 21), (3, Operand.tmp 26)], type := 67, pos := "ref.go:40", after := #[{ on := 5, ground := Ground.data }, { on := 8, ground := Ground.data }, { on := 11, ground := Ground.data }, { on := 16, ground := Ground.data }], guard := none }) rfl (fun K hK => ?_) ?_
        go_simp; (first | refine newG hl36.out hml.out hPb.out hnb.out hnl.out hmb.out hkb.out sA' hHeld.2.2.2.2.1 hHeld.2.2.2.2.2 sK.out ?_ | refine newG hl36.out hml.out hPb.out hnb.out hnl.out hmb.out hkb.out sA hHeld.2.2.2.2.1 hHeld.2.2.2.2.2 sK' ?_); intro wR rR bR
        refine hK.out _ _ (keepS _ _ bR.out hHeld) (fun hHeld => ?_)
        clear hK K
        (try simp only [List.setIfInBounds_toArray, List.set_cons_zero, List.set_cons_succ])
        refine wpAnyH_ready (rs := [18]) (by kernel_rfl) (by simp) ?_
        refine AllReadyH.cons (o := { dst := some 28, op := Op.call { callee := Callee.value (Operand.func 22), args := #[Operand.tmp 27], argTypes := #[67] }, type := 41, pos := "ref.go:40", after := #[{ on := 17, ground := Ground.data }, { on := 4, ground := Ground.chain }], guard := none }) rfl (fun K hK => ?_) ?_
        go_simp; refine (renc_walk _ _ _ _ _ rR.out).mono ?_; rintro e wE ⟨vE, rfl, sE, bE⟩; rw [hE] at sE ⊢; rw [if_pos rfl] at sE
        refine hK.out _ _ (keepS _ _ bE hHeld) (fun hHeld => ?_)
        clear hK K
        (try simp only [List.setIfInBounds_toArray, List.set_cons_zero, List.set_cons_succ])
        refine wpAnyH_take (i := 19) (oi := { dst := some 29, op := Op.extract (Operand.tmp 28) 0, type := 26, pos := "ref.go:40", after := #[{ on := 18, ground := Ground.data }], guard := none }) (v := ?v21) rfl (by kernel_rfl) (by kernel_rfl) (by kernel_rfl) (fun _ _ _ h => h) (Or.inl ⟨by rfl, ?hy21⟩) hHeld ?_
        case hy21 => (intro w hSw; (try dsimp only at hSw); go_simp; (try with_reducible rfl))
        (try simp only [Act.put, List.setIfInBounds_toArray, List.set_cons_zero, List.set_cons_succ])
        refine wpAnyH_take (i := 20) (oi := { dst := some 30, op := Op.extract (Operand.tmp 28) 1, type := 3, pos := "ref.go:40", after := #[{ on := 18, ground := Ground.data }], guard := none }) (v := ?v22) rfl (by kernel_rfl) (by kernel_rfl) (by kernel_rfl) (fun _ _ _ h => h) (Or.inl ⟨by rfl, ?hy22⟩) hHeld ?_
        case hy22 => (intro w hSw; (try dsimp only at hSw); go_simp; (try with_reducible rfl))
        (try simp only [Act.put, List.setIfInBounds_toArray, List.set_cons_zero, List.set_cons_succ])
        refine wpAnyH_take (i := 21) (oi := { dst := some 2, op := Op.assign (Operand.tmp 29), type := 26, pos := "ref.go:40", after := #[{ on := 19, ground := Ground.data }, { on := 18, ground := Ground.chain }, { on := 0, ground := Ground.phase }, { on := 1, ground := Ground.phase }, { on := 2, ground := Ground.phase }, { on := 3, ground := Ground.phase }, { on := 4, ground := Ground.phase }, { on := 5, ground := Ground.phase }, { on := 6, ground := Ground.phase }, { on := 7, ground := Ground.phase }, { on := 8, ground := Ground.phase }, { on := 9, ground := Ground.phase }, { on := 10, ground := Ground.phase }, { on := 11, ground := Ground.phase }, { on := 12, ground := Ground.phase }, { on := 13, ground := Ground.phase }, { on := 14, ground := Ground.phase }, { on := 15, ground := Ground.phase }, { on := 16, ground := Ground.phase }, { on := 17, ground := Ground.phase }, { on := 18, ground := Ground.phase }, { on := 19, ground := Ground.phase }, { on := 20, ground := Ground.phase }], guard := none }) (v := ?v23) rfl (by kernel_rfl) (by kernel_rfl) (by kernel_rfl) (fun _ _ _ h => h) (Or.inl ⟨by rfl, ?hy23⟩) hHeld ?_
        case hy23 => (intro w hSw; (try dsimp only at hSw); go_simp; (try with_reducible rfl))
        (try simp only [Act.put, List.setIfInBounds_toArray, List.set_cons_zero, List.set_cons_succ])
        refine wpAnyH_take (i := 22) (oi := { dst := some 3, op := Op.assign (Operand.tmp 30), type := 3, pos := "ref.go:40", after := #[{ on := 20, ground := Ground.data }, { on := 21, ground := Ground.chain }, { on := 0, ground := Ground.phase }, { on := 1, ground := Ground.phase }, { on := 2, ground := Ground.phase }, { on := 3, ground := Ground.phase }, { on := 4, ground := Ground.phase }, { on := 5, ground := Ground.phase }, { on := 6, ground := Ground.phase }, { on := 7, ground := Ground.phase }, { on := 8, ground := Ground.phase }, { on := 9, ground := Ground.phase }, { on := 10, ground := Ground.phase }, { on := 11, ground := Ground.phase }, { on := 12, ground := Ground.phase }, { on := 13, ground := Ground.phase }, { on := 14, ground := Ground.phase }, { on := 15, ground := Ground.phase }, { on := 16, ground := Ground.phase }, { on := 17, ground := Ground.phase }, { on := 18, ground := Ground.phase }, { on := 19, ground := Ground.phase }, { on := 20, ground := Ground.phase }, { on := 21, ground := Ground.phase }], guard := none }) (v := ?v24) rfl (by kernel_rfl) (by kernel_rfl) (by kernel_rfl) (fun _ _ _ h => h) (Or.inl ⟨by rfl, ?hy24⟩) hHeld ?_
        case hy24 => (intro w hSw; (try dsimp only at hSw); go_simp; (try with_reducible rfl))
        (try simp only [Act.put, List.setIfInBounds_toArray, List.set_cons_zero, List.set_cons_succ])
        refine wpAnyH_done (by kernel_rfl) ?_ _
        rotate_left
        exact AllReadyH.nil
        exact AllReadyH.nil
        exact AllReadyH.nil
        exact AllReadyH.nil
        all_goals
          have BZ : Below w.heap.size w wE := by
            first
              | exact bstep (bstep (bstep (bstep (bstep B1.out ((Below.refl _ _).drew)) bA) bK.out) bR.out) bE
              | exact bstep (bstep (bstep (bstep B1.out bK.out) bA) bR.out) bE
          have HBZ := hid BZ
          have SE := hid sE
          clear BZ sE bE bA keepS hHeld PK hE rR bR bK sK sA
          go_wp2
          go_ret2
          exact ⟨vE, by rw [hc'.out]; rfl, by rw [if_pos hc'.out]; exact SE.out, HBZ.out⟩
  · have te : (((g.check : Nat) : Int) != 0) = true := by simp; omega
    have HC := hid hc
    clear hc
    go_wp2
    go_ret2
    exact ⟨_, rfl, by rw [if_neg HC.out]; exact ⟨none, 0, rfl, Sl.nilS _ _ (by decide) (fun _ => rfl)⟩, B1.out⟩
theorem infoTl : (Tryd.prog.info? 49).map (·.size) = some (nums .u32 (H0 ++ K0)).length := by rw [nums_length]; exact infoTab
theorem tabV_arr : tabV = .agg (nums .u32 (H0 ++ K0)).toArray := rfl
theorem gen_bytes_small {g : Gen} (hc : g.check = 0) (hm : g.me.length = 32) (ht : g.tx.length = 32) : g.bytes.length ≤ 300 := by
  unfold Gen.check at hc
  split at hc
  · omega
  · split at hc
    · omega
    · unfold Gen.bytes Gen.recs
      have h2 : ∀ x : Nat, (size x).length ≤ 9 := fun x => by rw [size_len]; (repeat' split) <;> omega
      have s0 := h2 0
      have s1 := h2 2
      have s2 := h2 4
      have s3 := h2 6
      have a0 := h2 (ptb g.tx g.out.toNat).length
      have a1 := h2 g.nm.length
      have a2 := h2 g.me.length
      have a3 := h2 1
      rw [encAll_cons, encAll_cons, encAll_cons, encAll_cons]
      simp only [List.length_append, List.length_singleton, encAll, List.flatMap_nil, List.length_nil]
      have : (ptb g.tx g.out.toNat).length = 36 := by simp [ptb, ht]
      omega
set_option maxRecDepth 100000 in
set_option maxHeartbeats 4000000 in
theorem rgid_walk (g : Gen) (a : Option Addr) (c : Nat) (w : World) (h : g.good w a c) :
    Calls Tryd.prog 14 #[tabV, .agg (g.cells a c).toArray] w (IdRes (idG g) w) := by
  have HG := hid h
  rw [tabV_arr]
  have RT := fun a n cap ls w h hlen => rtag_walk nmAsset nmAsset_size a n cap ls w h hlen
  rw [tabV_arr] at RT
  have RT := hid RT
  have un32 := Tryd.underlying22
  have hiG := hid (show (Tryd.prog.info? 36).map (·.size) = some (g.cells a c).length by rw [Gen.len a c h.tl h.ml]; exact infoRGen)
  have hiT := hid infoTl
  generalize nums .u32 (H0 ++ K0) = TT at *
  have A3 := fun z => alloc3p w (.cells TT.toArray 49) (.cells (g.cells a c).toArray 36) (.cells z 22)
  clear h
  go_enter Tryd.func14, Tryd.ntmps14
  go_upto_region 1 with (fail)
  generalize hW : World.alloc (World.alloc (World.alloc w _) _) _ = wb
  replace A3 : ∃ z : Array Value, z.size = 32 ∧ wb.heap[w.heap.size]? = some (.cells TT.toArray 49 (0, 0)) ∧ wb.heap[w.heap.size + 1]? = some (.cells (g.cells a c).toArray 36 (0, 0)) ∧ wb.heap[w.heap.size + 1 + 1]? = some (.cells z 22 (0, 0)) ∧ Below w.heap.size w wb := ⟨_, by rfl, hW ▸ (A3 _).1, hW ▸ (A3 _).2.1, hW ▸ (A3 _).2.2.1, hW ▸ (A3 _).2.2.2⟩
  obtain ⟨z, hz, gT, gP, gZ, b0⟩ := A3
  have HTT := hid gT
  have HZ := hid gZ
  have B0 := hid b0
  have hz := hid hz
  have HGb := hid (HG.out.below b0)
  have r0 := row_range gP
  have hRl : w.heap.size + 1 + 1 < wb.heap.size := (Array.getElem?_eq_some_iff.1 gZ).1
  clear hW gP gT gZ b0 HG
  generalize hT0 : w.heap.size = T0 at *
  generalize hP : T0 + 1 = P at *
  generalize hR : P + 1 = R at *
  have hPR : T0 ≤ R := by omega
  clear hP hR
  go_wp2_with (refine wpList_load_mid rfl _ _ rfl P 0 rfl (g.cells a c) _ r0 Tryd.underlying36 rfl hiG.out ?_)
  refine (rgenc_walk g a c _ HGb.out).mono ?_
  rintro e w2 ⟨v, rfl, ⟨av, cv, rfl, sv⟩, b2⟩
  have HZ2 := hid (heap_keep HZ.out b2)
  have HT2 := hid (heap_keep HTT.out b2)
  have B2 := hid (B0.out.trans (b2.mono (by omega)))
  have hR2 : R < w2.heap.size := (Array.getElem?_eq_some_iff.1 HZ2.out).1
  clear b2 r0 HZ B0 HTT
  have hiI := hid (infoO' (idG_ok g).1)
  have hzI := hid (sz32' (idG_ok g).1 z hz.out)
  by_cases hck : g.check = 0
  · have hid1 := hid (show idG g = sha (tagH nmAsset ++ g.bytes) by unfold idG; rw [if_pos hck])
    obtain ⟨hl1, hl2⟩ := gen_bytes_len hck HGb.out.ml HGb.out.tl
    have hl3 := gen_bytes_small hck HGb.out.ml HGb.out.tl
    have hlt := hid (gen_bytes_lt hck HGb.out.mb HGb.out.tb HGb.out.nb)
    rw [if_pos hck] at sv
    rw [if_pos hck, hck]
    obtain ⟨bs, hbs⟩ : ∃ bs, bs = g.bytes := ⟨_, rfl⟩
    rw [← hbs] at sv hl1 hl2 hl3 hlt hid1 ⊢
    obtain ⟨n, hn⟩ : ∃ n, n = bs.length := ⟨_, rfl⟩
    rw [← hn] at sv hl1 hl2 hl3 ⊢
    have HN := hid hn
    have SV := hid sv
    have rT := row_range HT2.out
    clear hck hbs sv hn
    go_wp2_with (refine wpList_load_mid rfl _ _ rfl T0 0 rfl TT _ rT Tryd.underlying49 rfl hiT.out ?_)
    have bA := fun T => (Below.refl w2.heap.size w2).alloc (Nat.le_refl _) (.cells #[.slice av n cv] T)
    refine (RT.out _ 1 1 [⟨av, cv, bs⟩] _ (parts1 (cellNew1 _ _ _) (SV.out.below (bA _)) hlt.out (by omega)) (by simp [flat, ← HN.out]; omega)).mono ?_
    rintro e w4 ⟨rfl, b4⟩
    have ef : flat [⟨av, cv, bs⟩] = bs := by simp [flat]
    rw [ef, ← hid1.out]
    have HZ4 := hid (heap_keep (heap_keep HZ2.out (bA _)) b4)
    have B4 := hid ((B2.out.trans ((bA _).mono (by omega))).trans (b4.mono (by simp; omega)))
    clear b4 bA ef HZ2 B2 SV hid1 rT
    unfold hv
    go_wp2_with (refine wpList_store_row rfl _ _ _ rfl R (nums .u8 (idG g)).toArray rfl rfl _ _ HZ4.out hiI.out hzI.out (one32 _) ?_)
    refine bodyPost_ret (results_cellH rfl _ _ R _ (nums .u8 (idG g)).toArray _ _ rfl (setRow_heap w4 R _ _ _ _ HZ4.out) un32 rfl hiI.out) rfl ?_
    exact ⟨rfl, hT0 ▸ below_setRow B4.out hPR _⟩
  · have hid1 := hid (show idG g = pzero by unfold idG; rw [if_neg hck])
    obtain ⟨k, hk⟩ : ∃ k, k = g.check := ⟨_, rfl⟩
    rw [← hk] at hck sv ⊢
    have t1 : ((k : Int) == 0) = false := by rw [beq_eq_false_iff_ne]; omega
    have t2 : ((k : Int) != 0) = true := by rw [bne_iff_ne]; omega
    have t3 : decide ((k : Int) = 0) = false := by rw [decide_eq_false_iff_not]; omega
    have t4 : (k == 0) = false := by rw [beq_eq_false_iff_ne]; omega
    rw [hid1.out] at hiI hzI
    clear hk sv
    go_wp2_with (refine wpList_store_row rfl _ _ _ rfl R (nums .u8 pzero).toArray rfl rfl _ _ HZ2.out hiI.out hzI.out (one32 _) ?_)
    refine bodyPost_ret (results_cellH rfl _ _ R _ (nums .u8 pzero).toArray _ _ rfl (setRow_heap w2 R _ _ _ _ HZ2.out) un32 rfl hiI.out) rfl ?_
    exact ⟨by rw [hid1.out]; rfl, hT0 ▸ below_setRow B2.out hPR _⟩
end Go.Proofs.YtgaidleepjkldaaDoor

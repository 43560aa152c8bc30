/- The walk of asset.Encode. Its drawn region is printed by wip/region.py. -/
import Derived.Test.YtgaidleepjkldaaGen
import Derived.Test.YtgaidleepjkldaaFormP
namespace Go.Proofs.Ytgaidleepjkldaa
open Go.RowKit

def Gen.recs (g : Gen) : List Pr := [(0, ptb g.tx g.out.toNat), (2, g.nm), (4, g.me), (6, [g.kind.toNat])]
def Gen.bytes (g : Gen) : List Nat := encAll g.recs
theorem gen_enc {p nm me : List Nat} {k : Nat} (h1 : p.length = 36) (h2 : nm.length ≤ 64) (h3 : me.length = 32) : encE [(0, p), (2, nm), (4, me), (6, [k])] = 0 := by
  simp [encE, encErr, h1, h3]; omega
def GEnc (w : World) (g : Gen) (e : Ending) (w' : World) : Prop := ∃ v, e = .returned (.tuple #[v, .int .i64 ((g.check : Nat) : Int)]) ∧ SlV .u8 w' v (if g.check = 0 then g.bytes else []) ∧ Below w.heap.size w w'
theorem newK {K : Act → World → Prop} {A : Act} {W : World} {T : TypeId} (k : Nat) {v : Value} (hv : v = .int .u8 (k : Int)) (h : ∀ W', Hid (Sl .u8 W' (some ⟨W.heap.size, 0, none⟩) 1 1 [k]) → Hid (Below W.heap.size W W') → K A W') : K A (W.alloc (.cells #[v] T)) := by
  subst hv
  exact h _ (sl_lit .u8 W _ T [k] rfl rfl (by decide)) ((Below.refl _ _).alloc (Nat.le_refl _) _)
theorem newKd {K : Act → World → Prop} {A : Act} {W : World} {T : TypeId} (k : Nat) {v : Value} (hv : v = .int .u8 (k : Int)) (h : ∀ W', Hid (Sl .u8 W' (some ⟨W.heap.size, 0, none⟩) 1 1 [k]) → Hid (Below W.heap.size W W') → K A W') : K A (W.alloc (.cells #[v] T)).drew := by
  subst hv
  exact h _ (sl_lit .u8 W _ T [k] rfl rfl (by decide)) ((Below.refl _ _).alloc (Nat.le_refl _) _).drew
theorem newG {K : Act → World → Prop} {A : Act} {W : World} {T : TypeId} {aA a : Option Addr} {cA c G gk k o : Nat} {tx nm me : List Nat} (hP : (ptb tx o).length = 36) (hM : me.length = 32)
    (b1 : ∀ d ∈ ptb tx o, d < 256) (b2 : ∀ d ∈ nm, d < 256) (l2 : nm.length ≤ 140737488351232) (b3 : ∀ d ∈ me, d < 256) (b4 : k < 256)
    (s1 : Sl .u8 W aA 36 cA (ptb tx o)) (s2 : Sl .u8 W a nm.length c nm) (s3 : Sl .u8 W (some ⟨G, 34, none⟩) 32 32 me) (s4 : Sl .u8 W (some ⟨gk, 0, none⟩) 1 1 [k])
    (h : ∀ W', Hid (Recs W' (some ⟨W.heap.size, 0, none⟩) 4 4 [⟨0, aA, cA, ptb tx o⟩, ⟨2, a, c, nm⟩, ⟨4, some ⟨G, 34, none⟩, 32, me⟩, ⟨6, some ⟨gk, 0, none⟩, 1, [k]⟩]) → Hid (Below W.heap.size W W') → K A W') :
    K A (W.alloc (.cells #[.int .u64 0, .slice aA 36 cA, .int .u64 2, .slice a nm.length c, .int .u64 4, .slice (some ⟨G, 34, none⟩) 32 32, .int .u64 6, .slice (some ⟨gk, 0, none⟩) 1 1] T)) := by
  refine h _ (recs_lit' _ rfl ?_ rfl (by decide) ?_) ((Below.refl _ _).alloc (Nat.le_refl _) _)
  · simp [LR.cells, hP, hM]
  · intro l hl
    simp only [List.mem_cons, List.not_mem_nil, or_false] at hl
    rcases hl with rfl | rfl | rfl | rfl
    · exact ⟨show 0 < 18446744073709551616 by decide, by rw [hP]; exact s1, b1, by rw [hP]; decide⟩
    · exact ⟨show 2 < 18446744073709551616 by decide, s2, b2, l2⟩
    · exact ⟨show 4 < 18446744073709551616 by decide, by show Sl .u8 W _ me.length 32 me; rw [hM]; exact s3, b3, by show me.length ≤ _; rw [hM]; decide⟩
    · exact ⟨show 6 < 18446744073709551616 by decide, s4, by intro d hd; simp at hd; omega, show 1 ≤ 140737488351232 by decide⟩
set_option maxRecDepth 100000 in
set_option maxHeartbeats 4000000 in
theorem genc_walk (g : Gen) (a : Option Addr) (c : Nat) (w : World) (h : g.good w a c) :
    Calls Try.prog 19 #[.agg (g.cells a c).toArray] w (GEnc w g) := by
  have b0 := (Below.refl w.heap.size w).alloc (Nat.le_refl _) (.cells (g.cells a c).toArray 28)
  have hr := range_new w (g.cells a c).toArray 28
  have CW := fun wx => hid (check_walk g a c h.tl h.ml wx)
  have h1 := h.below b0
  obtain ⟨e1, e2, e3, e4, _, e6⟩ := Gen.at' a c h.tl h.ml
  have c2 := gen_cell hr e2
  have c3 := gen_cell hr e3
  have rP := gen_range hr 0 33
  rw [List.drop_zero, List.toList_toArray, e4] at rP
  have rM := gen_range hr 34 32
  rw [List.toList_toArray, e6] at rM
  have hiG := hid (show (Try.prog.info? 28).map (·.size) = some (g.cells a c).length by rw [Gen.len a c h.tl h.ml]; exact infoGen)
  have B0 := hid b0
  clear e1 e2 e3 e4 e6 b0 h
  go_enter Try.func19, Try.ntmps19
  go_wp2_with (refine wpList_load_mid rfl _ _ rfl w.heap.size 0 rfl (g.cells a c) _ hr Try.underlying28 rfl hiG.out ?_)
  refine (CW _).out.mono ?_
  rintro e w1 ⟨rfl, b1⟩
  have B1 := hid (bstep B0.out b1)
  have h2 := h1.below b1
  have f1 := range_keep b1 rP
  have f2 := cell_keep b1 c2
  have f3 := cell_keep b1 c3
  have fm := range_keep b1 rM
  clear b1 h1 hr rP rM c2 c3 B0 CW hiG
  by_cases hc : g.check = 0
  · have hc' := hid hc
    unfold Gen.check at hc
    split at hc
    · omega
    · rename_i hn1
      split at hc
      · omega
      · rename_i hn2
        obtain ⟨tx, oz, nm, me, kz⟩ := g
        simp only at hn1 hn2 f1 f2 f3 fm hc' ⊢
        obtain ⟨o, rfl⟩ := Int.eq_ofNat_of_zero_le (show 0 ≤ oz by omega)
        obtain ⟨k, rfl⟩ := Int.eq_ofNat_of_zero_le (show 0 ≤ kz by omega)
        have ho : o < 256 := by omega
        have hk : k < 256 := by omega
        have htx : tx.length = 32 := h2.tl
        have hml := hid (show me.length = 32 from h2.ml)
        have hmb := hid (show ∀ d ∈ me, d < 256 from h2.mb)
        have hnb := hid (show ∀ d ∈ nm, d < 256 from h2.nb)
        have hnl := hid (show nm.length ≤ 140737488351232 from h2.nl)
        have hkb := hid hk
        have hPb := hid (ptb_lt h2.tb ho)
        have hl36 := hid (ptb_len o htx)
        have f4 : Sl .u8 w1 a nm.length c nm := h2.sl
        have f5 : Sl .u8 w1 (some ⟨w.heap.size, 34, none⟩) 32 32 me := ⟨by rw [nums_length, hml.out], Nat.le_refl _, by decide, (fun e => by cases e), w.heap.size, 34, fun _ => rfl, fm⟩
        have PK := fun wx => hid (put_walk tx o htx ho wx)
        unfold ptv at PK
        have hi25 : (Try.prog.info? 25).map (·.size) = some (nums .u8 tx ++ [Value.int .i64 (o : Int)]).length := by rw [List.length_append, nums_length, htx]; exact infoPt
        have un25 := Try.underlying25
        have hE : ∀ aA cA a c G gk, encE (List.map LR.pr [⟨0, aA, cA, ptb tx o⟩, ⟨2, a, c, nm⟩, ⟨4, some ⟨G, 34, none⟩, 32, me⟩, ⟨6, some ⟨gk, 0, none⟩, 1, [k]⟩]) = 0 := fun _ _ _ _ _ _ => gen_enc (p := ptb tx o) (nm := nm) (me := me) hl36.out (by omega) hml.out
        have ew : IntKind.u8.wrap (k : Int) = (k : Int) := u8w hk
        have tc : ((0 : Int) != 0) = false := rfl
        rw [hc'.out]
        obtain ⟨G, hG⟩ : ∃ G, G = w.heap.size := ⟨_, rfl⟩
        rw [← hG] at f1 f2 f3 f5 ⊢
        generalize nums .u8 tx ++ [Value.int .i64 (o : Int)] = PL at *
        clear hc hn1 hn2 h2 fm hG
        go_wp2_with fail
        have keepS : ∀ X Y : World, Below X.heap.size X Y → (X.rangeAt G 0 PL ∧ X.cell? ⟨G, 33, none⟩ = some (.slice a nm.length c) ∧ X.cell? ⟨G, 66, none⟩ = some (.int .i64 (k : Int)) ∧ Sl .u8 X a nm.length c nm ∧ Sl .u8 X (some ⟨G, 34, none⟩) 32 32 me) → (Y.rangeAt G 0 PL ∧ Y.cell? ⟨G, 33, none⟩ = some (.slice a nm.length c) ∧ Y.cell? ⟨G, 66, none⟩ = some (.int .i64 (k : Int)) ∧ Sl .u8 Y a nm.length c nm ∧ Sl .u8 Y (some ⟨G, 34, none⟩) 32 32 me) :=
          fun X Y hb h => ⟨range_keep hb h.1, cell_keep hb h.2.1, cell_keep hb h.2.2.1, h.2.2.2.1.below hb, h.2.2.2.2.below hb⟩
        refine wp_region_held_drew (S := fun w' => w'.rangeAt G 0 PL ∧ w'.cell? ⟨G, 33, none⟩ = some (.slice a nm.length c) ∧ w'.cell? ⟨G, 66, none⟩ = some (.int .i64 (k : Int)) ∧ Sl .u8 w' a nm.length c nm ∧ Sl .u8 w' (some ⟨G, 34, none⟩) 32 32 me) (by kernel_rfl) (⟨f1, f2, f3, f4, f5⟩) (fun hHeld => ?_)
        try simp only [List.size_toArray, List.length_cons, List.length_nil, Nat.reduceAdd, Array.replicate_succ, Array.replicate_zero, List.push_toArray, List.nil_append, List.cons_append]
        refine wpAnyH_take (i := 0) (oi := { dst := some 10, op := Op.fieldAddr 28 (Operand.tmp 1) 0, type := 0, pos := "asset.go:60", after := #[], guard := none }) (v := ?v1) rfl (by kernel_rfl) (by kernel_rfl) (by kernel_rfl) (fun _ _ _ h => h) (Or.inl ⟨by rfl, ?hy1⟩) hHeld ?_
        case hy1 => (intro w hSw; (try dsimp only at hSw); go_simp; (try with_reducible rfl))
        (try simp only [Act.put, List.setIfInBounds_toArray, List.set_cons_zero, List.set_cons_succ])
        refine' wpAnyH_take (i := 1) (oi := { dst := some 11, op := Op.load 25 (Operand.tmp 10), type := 25, pos := "asset.go:60", after := #[{ on := 0, ground := Ground.data }], guard := none }) (v := _) rfl (by kernel_rfl) (by kernel_rfl) (by kernel_rfl) (fun _ _ _ h => h) (yieldsIf_load_mid (by rfl) _ _ rfl G 0 rfl PL _ (fun _ h => h.1) un25 rfl hi25) hHeld ?_
        (try simp only [Act.put, List.setIfInBounds_toArray, List.set_cons_zero, List.set_cons_succ])
        refine wpAnyH_take (i := 4) (oi := { dst := some 14, op := Op.fieldAddr 28 (Operand.tmp 1) 1, type := 0, pos := "asset.go:60", after := #[], guard := none }) (v := ?v2) rfl (by kernel_rfl) (by kernel_rfl) (by kernel_rfl) (fun _ _ _ h => h) (Or.inl ⟨by rfl, ?hy2⟩) hHeld ?_
        case hy2 => (intro w hSw; (try dsimp only at hSw); go_simp; (try with_reducible rfl))
        (try simp only [Act.put, List.setIfInBounds_toArray, List.set_cons_zero, List.set_cons_succ])
        refine wpAnyH_take (i := 5) (oi := { dst := some 15, op := Op.load 26 (Operand.tmp 14), type := 26, pos := "asset.go:60", after := #[{ on := 4, ground := Ground.data }], guard := none }) (v := ?v3) rfl (by kernel_rfl) (by kernel_rfl) (by kernel_rfl) (fun _ _ _ h => h) (Or.inl ⟨by rfl, ?hy3⟩) hHeld ?_
        case hy3 => (intro w hSw; (try dsimp only at hSw); go_simp; (try with_reducible rfl))
        (try simp only [Act.put, List.setIfInBounds_toArray, List.set_cons_zero, List.set_cons_succ])
        refine wpAnyH_take (i := 6) (oi := { dst := some 16, op := Op.build 61 #[(0, Operand.const (Value.int IntKind.u64 2)), (1, Operand.tmp 15)], type := 61, pos := "asset.go:60", after := #[{ on := 5, ground := Ground.data }], guard := none }) (v := ?v4) rfl (by kernel_rfl) (by kernel_rfl) (by kernel_rfl) (fun _ _ _ h => h) (Or.inl ⟨by rfl, ?hy4⟩) hHeld ?_
        case hy4 => (intro w hSw; (try dsimp only at hSw); go_simp; (try with_reducible rfl))
        (try simp only [Act.put, List.setIfInBounds_toArray, List.set_cons_zero, List.set_cons_succ])
        refine wpAnyH_take (i := 7) (oi := { dst := some 17, op := Op.fieldAddr 28 (Operand.tmp 1) 2, type := 0, pos := "asset.go:60", after := #[], guard := none }) (v := ?v5) rfl (by kernel_rfl) (by kernel_rfl) (by kernel_rfl) (fun _ _ _ h => h) (Or.inl ⟨by rfl, ?hy5⟩) hHeld ?_
        case hy5 => (intro w hSw; (try dsimp only at hSw); go_simp; (try with_reducible rfl))
        (try simp only [Act.put, List.setIfInBounds_toArray, List.set_cons_zero, List.set_cons_succ])
        refine wpAnyH_take (i := 8) (oi := { dst := some 18, op := Op.slice 23 (Operand.tmp 17) none none none, type := 26, pos := "asset.go:60", after := #[{ on := 7, ground := Ground.data }], guard := none }) (v := ?v6) rfl (by kernel_rfl) (by kernel_rfl) (by kernel_rfl) (fun _ _ _ h => h) (Or.inl ⟨by rfl, ?hy6⟩) hHeld ?_
        case hy6 => (intro w hSw; (try dsimp only at hSw); go_simp; (try with_reducible rfl))
        (try simp only [Act.put, List.setIfInBounds_toArray, List.set_cons_zero, List.set_cons_succ])
        refine wpAnyH_take (i := 9) (oi := { dst := some 19, op := Op.build 61 #[(0, Operand.const (Value.int IntKind.u64 4)), (1, Operand.tmp 18)], type := 61, pos := "asset.go:60", after := #[{ on := 8, ground := Ground.data }], guard := none }) (v := ?v7) rfl (by kernel_rfl) (by kernel_rfl) (by kernel_rfl) (fun _ _ _ h => h) (Or.inl ⟨by rfl, ?hy7⟩) hHeld ?_
        case hy7 => (intro w hSw; (try dsimp only at hSw); go_simp; (try with_reducible rfl))
        (try simp only [Act.put, List.setIfInBounds_toArray, List.set_cons_zero, List.set_cons_succ])
        refine wpAnyH_take (i := 10) (oi := { dst := some 20, op := Op.fieldAddr 28 (Operand.tmp 1) 3, type := 0, pos := "asset.go:60", after := #[], guard := none }) (v := ?v8) rfl (by kernel_rfl) (by kernel_rfl) (by kernel_rfl) (fun _ _ _ h => h) (Or.inl ⟨by rfl, ?hy8⟩) hHeld ?_
        case hy8 => (intro w hSw; (try dsimp only at hSw); go_simp; (try with_reducible rfl))
        (try simp only [Act.put, List.setIfInBounds_toArray, List.set_cons_zero, List.set_cons_succ])
        refine wpAnyH_take (i := 11) (oi := { dst := some 21, op := Op.load 3 (Operand.tmp 20), type := 3, pos := "asset.go:60", after := #[{ on := 10, ground := Ground.data }], guard := none }) (v := ?v9) rfl (by kernel_rfl) (by kernel_rfl) (by kernel_rfl) (fun _ _ _ h => h) (Or.inl ⟨by rfl, ?hy9⟩) hHeld ?_
        case hy9 => (intro w hSw; (try dsimp only at hSw); go_simp; (try with_reducible rfl))
        (try simp only [Act.put, List.setIfInBounds_toArray, List.set_cons_zero, List.set_cons_succ])
        refine wpAnyH_take (i := 12) (oi := { dst := some 22, op := Op.convert 3 5 (Operand.tmp 21), type := 5, pos := "asset.go:60", after := #[{ on := 11, ground := Ground.data }], guard := none }) (v := ?v10) rfl (by kernel_rfl) (by kernel_rfl) (by kernel_rfl) (fun _ _ _ h => h) (Or.inl ⟨by rfl, ?hy10⟩) hHeld ?_
        case hy10 => (intro w hSw; (try dsimp only at hSw); go_simp; (try with_reducible rfl))
        (try simp only [Act.put, List.setIfInBounds_toArray, List.set_cons_zero, List.set_cons_succ])
        refine wpAnyH_ready (rs := [2, 13]) (by kernel_rfl) (by simp) ?_
        refine AllReadyH.cons (o := { dst := some 12, op := Op.call { callee := Callee.value (Operand.func 8), args := #[Operand.tmp 11], argTypes := #[25] }, type := 26, pos := "asset.go:60", after := #[{ on := 1, ground := Ground.data }], guard := none }) rfl (fun K hK => ?_) ?_
        go_simp; refine (PK _).out.mono ?_; rintro e wA ⟨vA, rfl, _, oA, bA⟩; obtain ⟨aA, cA, rfl, sA⟩ := SlV.of_owns oA; rw [hl36.out] at sA ⊢; clear oA; (try have sK' := sK.out.below bA)
        refine hK.out _ _ (keepS _ _ bA hHeld) (fun hHeld => ?_)
        clear hK K
        (try simp only [List.setIfInBounds_toArray, List.set_cons_zero, List.set_cons_succ])
        refine wpAnyH_take (i := 3) (oi := { dst := some 13, op := Op.build 61 #[(0, Operand.const (Value.int IntKind.u64 0)), (1, Operand.tmp 12)], type := 61, pos := "asset.go:60", after := #[{ on := 2, ground := Ground.data }], guard := none }) (v := ?v11) rfl (by kernel_rfl) (by kernel_rfl) (by kernel_rfl) (fun _ _ _ h => h) (Or.inl ⟨by rfl, ?hy11⟩) hHeld ?_
        case hy11 => (intro w hSw; (try dsimp only at hSw); go_simp; (try with_reducible rfl))
        (try simp only [Act.put, List.setIfInBounds_toArray, List.set_cons_zero, List.set_cons_succ])
        refine wpAnyH_ready (rs := [13]) (by kernel_rfl) (by simp) ?_
        refine AllReadyH.cons (o := { dst := some 23, op := Op.buildSlice 26 1 #[(0, Operand.tmp 22)], type := 26, pos := "asset.go:60", after := #[{ on := 12, ground := Ground.data }], guard := none }) rfl (fun K hK => ?_) ?_
        go_simp; (first | refine newK k rfl ?_ | refine newKd k rfl ?_); intro wK sK bK; (try have sA' := sA.below bK.out)
        refine hK.out _ _ (keepS _ _ bK.out hHeld) (fun hHeld => ?_)
        clear hK K
        (try simp only [List.setIfInBounds_toArray, List.set_cons_zero, List.set_cons_succ])
        refine wpAnyH_take (i := 14) (oi := { dst := some 24, op := Op.build 61 #[(0, Operand.const (Value.int IntKind.u64 6)), (1, Operand.tmp 23)], type := 61, pos := "asset.go:60", after := #[{ on := 13, ground := Ground.data }], guard := none }) (v := ?v12) rfl (by kernel_rfl) (by kernel_rfl) (by kernel_rfl) (fun _ _ _ h => h) (Or.inl ⟨by rfl, ?hy12⟩) hHeld ?_
        case hy12 => (intro w hSw; (try dsimp only at hSw); go_simp; (try with_reducible rfl))
        (try simp only [Act.put, List.setIfInBounds_toArray, List.set_cons_zero, List.set_cons_succ])
        refine wpAnyH_ready (rs := [15]) (by kernel_rfl) (by simp) ?_
        refine AllReadyH.cons (o := { dst := some 25, op := Op.buildSlice 57 4 #[(0, Operand.tmp 13), (1, Operand.tmp 16), (2, Operand.tmp 19), (3, Operand.tmp 24)], type := 57, pos := "asset.go:60", after := #[{ on := 3, ground := Ground.data }, { on := 6, ground := Ground.data }, { on := 9, ground := Ground.data }, { on := 14, ground := Ground.data }], guard := none }) rfl (fun K hK => ?_) ?_
        go_simp; (first | refine newG hl36.out hml.out hPb.out hnb.out hnl.out hmb.out hkb.out sA' hHeld.2.2.2.1 hHeld.2.2.2.2 sK.out ?_ | refine newG hl36.out hml.out hPb.out hnb.out hnl.out hmb.out hkb.out sA hHeld.2.2.2.1 hHeld.2.2.2.2 sK' ?_); intro wR rR bR
        refine hK.out _ _ (keepS _ _ bR.out hHeld) (fun hHeld => ?_)
        clear hK K
        (try simp only [List.setIfInBounds_toArray, List.set_cons_zero, List.set_cons_succ])
        refine wpAnyH_ready (rs := [16]) (by kernel_rfl) (by simp) ?_
        refine AllReadyH.cons (o := { dst := some 26, op := Op.call { callee := Callee.value (Operand.func 25), args := #[Operand.tmp 25], argTypes := #[57] }, type := 52, pos := "asset.go:60", after := #[{ on := 15, ground := Ground.data }, { on := 2, ground := Ground.chain }], guard := none }) rfl (fun K hK => ?_) ?_
        go_simp; refine (enc_walk _ _ _ _ _ rR.out).mono ?_; rintro e wE ⟨vE, rfl, sE, bE⟩; rw [hE] at sE ⊢; rw [if_pos rfl] at sE
        refine hK.out _ _ (keepS _ _ bE hHeld) (fun hHeld => ?_)
        clear hK K
        (try simp only [List.setIfInBounds_toArray, List.set_cons_zero, List.set_cons_succ])
        refine wpAnyH_take (i := 17) (oi := { dst := some 27, op := Op.extract (Operand.tmp 26) 0, type := 26, pos := "asset.go:60", after := #[{ on := 16, ground := Ground.data }], guard := none }) (v := ?v13) rfl (by kernel_rfl) (by kernel_rfl) (by kernel_rfl) (fun _ _ _ h => h) (Or.inl ⟨by rfl, ?hy13⟩) hHeld ?_
        case hy13 => (intro w hSw; (try dsimp only at hSw); go_simp; (try with_reducible rfl))
        (try simp only [Act.put, List.setIfInBounds_toArray, List.set_cons_zero, List.set_cons_succ])
        refine wpAnyH_take (i := 18) (oi := { dst := some 28, op := Op.extract (Operand.tmp 26) 1, type := 33, pos := "asset.go:60", after := #[{ on := 16, ground := Ground.data }], guard := none }) (v := ?v14) rfl (by kernel_rfl) (by kernel_rfl) (by kernel_rfl) (fun _ _ _ h => h) (Or.inl ⟨by rfl, ?hy14⟩) hHeld ?_
        case hy14 => (intro w hSw; (try dsimp only at hSw); go_simp; (try with_reducible rfl))
        (try simp only [Act.put, List.setIfInBounds_toArray, List.set_cons_zero, List.set_cons_succ])
        refine wpAnyH_take (i := 19) (oi := { dst := some 2, op := Op.assign (Operand.tmp 27), type := 26, pos := "asset.go:60", after := #[{ on := 17, ground := Ground.data }, { on := 16, ground := Ground.chain }, { on := 0, ground := Ground.phase }, { on := 1, ground := Ground.phase }, { on := 2, ground := Ground.phase }, { on := 3, ground := Ground.phase }, { on := 4, ground := Ground.phase }, { on := 5, ground := Ground.phase }, { on := 6, ground := Ground.phase }, { on := 7, ground := Ground.phase }, { on := 8, ground := Ground.phase }, { on := 9, ground := Ground.phase }, { on := 10, ground := Ground.phase }, { on := 11, ground := Ground.phase }, { on := 12, ground := Ground.phase }, { on := 13, ground := Ground.phase }, { on := 14, ground := Ground.phase }, { on := 15, ground := Ground.phase }, { on := 16, ground := Ground.phase }, { on := 17, ground := Ground.phase }, { on := 18, ground := Ground.phase }], guard := none }) (v := ?v15) rfl (by kernel_rfl) (by kernel_rfl) (by kernel_rfl) (fun _ _ _ h => h) (Or.inl ⟨by rfl, ?hy15⟩) hHeld ?_
        case hy15 => (intro w hSw; (try dsimp only at hSw); go_simp; (try with_reducible rfl))
        (try simp only [Act.put, List.setIfInBounds_toArray, List.set_cons_zero, List.set_cons_succ])
        refine wpAnyH_take (i := 20) (oi := { dst := some 3, op := Op.assign (Operand.tmp 28), type := 33, pos := "asset.go:60", after := #[{ on := 18, ground := Ground.data }, { on := 19, ground := Ground.chain }, { on := 0, ground := Ground.phase }, { on := 1, ground := Ground.phase }, { on := 2, ground := Ground.phase }, { on := 3, ground := Ground.phase }, { on := 4, ground := Ground.phase }, { on := 5, ground := Ground.phase }, { on := 6, ground := Ground.phase }, { on := 7, ground := Ground.phase }, { on := 8, ground := Ground.phase }, { on := 9, ground := Ground.phase }, { on := 10, ground := Ground.phase }, { on := 11, ground := Ground.phase }, { on := 12, ground := Ground.phase }, { on := 13, ground := Ground.phase }, { on := 14, ground := Ground.phase }, { on := 15, ground := Ground.phase }, { on := 16, ground := Ground.phase }, { on := 17, ground := Ground.phase }, { on := 18, ground := Ground.phase }, { on := 19, ground := Ground.phase }], guard := none }) (v := ?v16) rfl (by kernel_rfl) (by kernel_rfl) (by kernel_rfl) (fun _ _ _ h => h) (Or.inl ⟨by rfl, ?hy16⟩) hHeld ?_
        case hy16 => (intro w hSw; (try dsimp only at hSw); go_simp; (try with_reducible rfl))
        (try simp only [Act.put, List.setIfInBounds_toArray, List.set_cons_zero, List.set_cons_succ])
        refine wpAnyH_done (by kernel_rfl) ?_ _
        rotate_left
        exact AllReadyH.nil
        exact AllReadyH.nil
        exact AllReadyH.nil
        refine AllReadyH.cons (o := { dst := some 23, op := Op.buildSlice 26 1 #[(0, Operand.tmp 22)], type := 26, pos := "asset.go:60", after := #[{ on := 12, ground := Ground.data }], guard := none }) rfl (fun K hK => ?_) ?_
        go_simp; (first | refine newK k rfl ?_ | refine newKd k rfl ?_); intro wK sK bK; (try have sA' := sA.below bK.out)
        refine hK.out _ _ (keepS _ _ bK.out hHeld) (fun hHeld => ?_)
        clear hK K
        (try simp only [List.setIfInBounds_toArray, List.set_cons_zero, List.set_cons_succ])
        refine wpAnyH_take (i := 14) (oi := { dst := some 24, op := Op.build 61 #[(0, Operand.const (Value.int IntKind.u64 6)), (1, Operand.tmp 23)], type := 61, pos := "asset.go:60", after := #[{ on := 13, ground := Ground.data }], guard := none }) (v := ?v17) rfl (by kernel_rfl) (by kernel_rfl) (by kernel_rfl) (fun _ _ _ h => h) (Or.inl ⟨by rfl, ?hy17⟩) hHeld ?_
        case hy17 => (intro w hSw; (try dsimp only at hSw); go_simp; (try with_reducible rfl))
        (try simp only [Act.put, List.setIfInBounds_toArray, List.set_cons_zero, List.set_cons_succ])
        refine wpAnyH_ready (rs := [2]) (by kernel_rfl) (by simp) ?_
        refine AllReadyH.cons (o := { dst := some 12, op := Op.call { callee := Callee.value (Operand.func 8), args := #[Operand.tmp 11], argTypes := #[25] }, type := 26, pos := "asset.go:60", after := #[{ on := 1, ground := Ground.data }], guard := none }) rfl (fun K hK => ?_) ?_
        go_simp; refine (PK _).out.mono ?_; rintro e wA ⟨vA, rfl, _, oA, bA⟩; obtain ⟨aA, cA, rfl, sA⟩ := SlV.of_owns oA; rw [hl36.out] at sA ⊢; clear oA; (try have sK' := sK.out.below bA)
        refine hK.out _ _ (keepS _ _ bA hHeld) (fun hHeld => ?_)
        clear hK K
        (try simp only [List.setIfInBounds_toArray, List.set_cons_zero, List.set_cons_succ])
        refine wpAnyH_take (i := 3) (oi := { dst := some 13, op := Op.build 61 #[(0, Operand.const (Value.int IntKind.u64 0)), (1, Operand.tmp 12)], type := 61, pos := "asset.go:60", after := #[{ on := 2, ground := Ground.data }], guard := none }) (v := ?v18) rfl (by kernel_rfl) (by kernel_rfl) (by kernel_rfl) (fun _ _ _ h => h) (Or.inl ⟨by rfl, ?hy18⟩) hHeld ?_
        case hy18 => (intro w hSw; (try dsimp only at hSw); go_simp; (try with_reducible rfl))
        (try simp only [Act.put, List.setIfInBounds_toArray, List.set_cons_zero, List.set_cons_succ])
        refine wpAnyH_ready (rs := [15]) (by kernel_rfl) (by simp) ?_
        refine AllReadyH.cons (o := { dst := some 25, op := Op.buildSlice 57 4 #[(0, Operand.tmp 13), (1, Operand.tmp 16), (2, Operand.tmp 19), (3, Operand.tmp 24)], type := 57, pos := "asset.go:60", after := #[{ on := 3, ground := Ground.data }, { on := 6, ground := Ground.data }, { on := 9, ground := Ground.data }, { on := 14, ground := Ground.data }], guard := none }) rfl (fun K hK => ?_) ?_
        go_simp; (first | refine newG hl36.out hml.out hPb.out hnb.out hnl.out hmb.out hkb.out sA' hHeld.2.2.2.1 hHeld.2.2.2.2 sK.out ?_ | refine newG hl36.out hml.out hPb.out hnb.out hnl.out hmb.out hkb.out sA hHeld.2.2.2.1 hHeld.2.2.2.2 sK' ?_); intro wR rR bR
        refine hK.out _ _ (keepS _ _ bR.out hHeld) (fun hHeld => ?_)
        clear hK K
        (try simp only [List.setIfInBounds_toArray, List.set_cons_zero, List.set_cons_succ])
        refine wpAnyH_ready (rs := [16]) (by kernel_rfl) (by simp) ?_
        refine AllReadyH.cons (o := { dst := some 26, op := Op.call { callee := Callee.value (Operand.func 25), args := #[Operand.tmp 25], argTypes := #[57] }, type := 52, pos := "asset.go:60", after := #[{ on := 15, ground := Ground.data }, { on := 2, ground := Ground.chain }], guard := none }) rfl (fun K hK => ?_) ?_
        go_simp; refine (enc_walk _ _ _ _ _ rR.out).mono ?_; rintro e wE ⟨vE, rfl, sE, bE⟩; rw [hE] at sE ⊢; rw [if_pos rfl] at sE
        refine hK.out _ _ (keepS _ _ bE hHeld) (fun hHeld => ?_)
        clear hK K
        (try simp only [List.setIfInBounds_toArray, List.set_cons_zero, List.set_cons_succ])
        refine wpAnyH_take (i := 17) (oi := { dst := some 27, op := Op.extract (Operand.tmp 26) 0, type := 26, pos := "asset.go:60", after := #[{ on := 16, ground := Ground.data }], guard := none }) (v := ?v19) rfl (by kernel_rfl) (by kernel_rfl) (by kernel_rfl) (fun _ _ _ h => h) (Or.inl ⟨by rfl, ?hy19⟩) hHeld ?_
        case hy19 => (intro w hSw; (try dsimp only at hSw); go_simp; (try with_reducible rfl))
        (try simp only [Act.put, List.setIfInBounds_toArray, List.set_cons_zero, List.set_cons_succ])
        refine wpAnyH_take (i := 18) (oi := { dst := some 28, op := Op.extract (Operand.tmp 26) 1, type := 33, pos := "asset.go:60", after := #[{ on := 16, ground := Ground.data }], guard := none }) (v := ?v20) rfl (by kernel_rfl) (by kernel_rfl) (by kernel_rfl) (fun _ _ _ h => h) (Or.inl ⟨by rfl, ?hy20⟩) hHeld ?_
        case hy20 => (intro w hSw; (try dsimp only at hSw); go_simp; (try with_reducible rfl))
        (try simp only [Act.put, List.setIfInBounds_toArray, List.set_cons_zero, List.set_cons_succ])
        refine wpAnyH_take (i := 19) (oi := { dst := some 2, op := Op.assign (Operand.tmp 27), type := 26, pos := "asset.go:60", after := #[{ on := 17, ground := Ground.data }, { on := 16, ground := Ground.chain }, { on := 0, ground := Ground.phase }, { on := 1, ground := Ground.phase }, { on := 2, ground := Ground.phase }, { on := 3, ground := Ground.phase }, { on := 4, ground := Ground.phase }, { on := 5, ground := Ground.phase }, { on := 6, ground := Ground.phase }, { on := 7, ground := Ground.phase }, { on := 8, ground := Ground.phase }, { on := 9, ground := Ground.phase }, { on := 10, ground := Ground.phase }, { on := 11, ground := Ground.phase }, { on := 12, ground := Ground.phase }, { on := 13, ground := Ground.phase }, { on := 14, ground := Ground.phase }, { on := 15, ground := Ground.phase }, { on := 16, ground := Ground.phase }, { on := 17, ground := Ground.phase }, { on := 18, ground := Ground.phase }], guard := none }) (v := ?v21) rfl (by kernel_rfl) (by kernel_rfl) (by kernel_rfl) (fun _ _ _ h => h) (Or.inl ⟨by rfl, ?hy21⟩) hHeld ?_
        case hy21 => (intro w hSw; (try dsimp only at hSw); go_simp; (try with_reducible rfl))
        (try simp only [Act.put, List.setIfInBounds_toArray, List.set_cons_zero, List.set_cons_succ])
        refine wpAnyH_take (i := 20) (oi := { dst := some 3, op := Op.assign (Operand.tmp 28), type := 33, pos := "asset.go:60", after := #[{ on := 18, ground := Ground.data }, { on := 19, ground := Ground.chain }, { on := 0, ground := Ground.phase }, { on := 1, ground := Ground.phase }, { on := 2, ground := Ground.phase }, { on := 3, ground := Ground.phase }, { on := 4, ground := Ground.phase }, { on := 5, ground := Ground.phase }, { on := 6, ground := Ground.phase }, { on := 7, ground := Ground.phase }, { on := 8, ground := Ground.phase }, { on := 9, ground := Ground.phase }, { on := 10, ground := Ground.phase }, { on := 11, ground := Ground.phase }, { on := 12, ground := Ground.phase }, { on := 13, ground := Ground.phase }, { on := 14, ground := Ground.phase }, { on := 15, ground := Ground.phase }, { on := 16, ground := Ground.phase }, { on := 17, ground := Ground.phase }, { on := 18, ground := Ground.phase }, { on := 19, ground := Ground.phase }], guard := none }) (v := ?v22) rfl (by kernel_rfl) (by kernel_rfl) (by kernel_rfl) (fun _ _ _ h => h) (Or.inl ⟨by rfl, ?hy22⟩) hHeld ?_
        case hy22 => (intro w hSw; (try dsimp only at hSw); go_simp; (try with_reducible rfl))
        (try simp only [Act.put, List.setIfInBounds_toArray, List.set_cons_zero, List.set_cons_succ])
        refine wpAnyH_done (by kernel_rfl) ?_ _
        rotate_left
        exact AllReadyH.nil
        exact AllReadyH.nil
        exact AllReadyH.nil
        exact AllReadyH.nil
        all_goals
          have BZ : Below w.heap.size w wE := by
            first
              | exact bstep (bstep (bstep (bstep (bstep B1.out ((Below.refl _ _).drew)) bA) bK.out) bR.out) bE
              | exact bstep (bstep (bstep (bstep B1.out bK.out) bA) bR.out) bE
          have HBZ := hid BZ
          have SE := hid sE
          clear BZ sE bE bA keepS hHeld PK hE rR bR bK sK sA
          go_wp2
          go_ret2
          exact ⟨vE, by rw [hc'.out]; rfl, by rw [if_pos hc'.out]; exact SE.out, HBZ.out⟩
  · have te : (((g.check : Nat) : Int) != 0) = true := by simp; omega
    have HC := hid hc
    clear hc
    go_wp2
    go_ret2
    exact ⟨_, rfl, by rw [if_neg HC.out]; exact ⟨none, 0, rfl, Sl.nilS _ _ (by decide) (fun _ => rfl)⟩, B1.out⟩
end Go.Proofs.Ytgaidleepjkldaa

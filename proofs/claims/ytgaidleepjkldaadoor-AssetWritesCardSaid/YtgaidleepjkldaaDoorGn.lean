/- What a genesis is; whether it is right: the program's word and the reference's. -/
import Derived.Test.YtgaidleepjkldaaDoorPointL
import Derived.Test.YtgaidleepjkldaaDoorBa
import Derived.Test.YtgaidleepjkldaaDoorDc
namespace Go.Proofs.YtgaidleepjkldaaDoor
open Go.RowKit

/-- a genesis as it stands in a document -/
structure Gen where
  tx : List Nat
  out : Int
  nm : List Nat
  me : List Nat
  kind : Int
/-- its cells, its name's bytes lying at a, with room for c -/
def Gen.cells (g : Gen) (a : Option Addr) (c : Nat) : List Value := (nums .u8 g.tx ++ [Value.int .i64 g.out]) ++ [Value.slice a g.nm.length c] ++ nums .u8 g.me ++ [Value.int .i64 g.kind]
structure Gen.good (g : Gen) (w : World) (a : Option Addr) (c : Nat) : Prop where
  tl : g.tx.length = 32
  tb : ∀ d ∈ g.tx, d < 256
  ml : g.me.length = 32
  mb : ∀ d ∈ g.me, d < 256
  nb : ∀ d ∈ g.nm, d < 256
  nl : g.nm.length ≤ 140737488351232
  ow : (Lit.int .i64 g.out).wf = true
  kw : (Lit.int .i64 g.kind).wf = true
  sl : Sl .u8 w a g.nm.length c g.nm
theorem Gen.good.below {g : Gen} {w w' : World} {a : Option Addr} {c : Nat} (h : g.good w a c) (hb : Below w.heap.size w w') : g.good w' a c := ⟨h.tl, h.tb, h.ml, h.mb, h.nb, h.nl, h.ow, h.kw, h.sl.below hb⟩
theorem Gen.len {g : Gen} (a : Option Addr) (c : Nat) (h1 : g.tx.length = 32) (h2 : g.me.length = 32) : (g.cells a c).length = 67 := by simp [Gen.cells, h1, h2]
theorem Gen.at' {g : Gen} (a : Option Addr) (c : Nat) (h1 : g.tx.length = 32) (h2 : g.me.length = 32) : (g.cells a c)[32]? = some (.int .i64 g.out) ∧ (g.cells a c)[33]? = some (.slice a g.nm.length c) ∧ (g.cells a c)[66]? = some (.int .i64 g.kind) ∧
    (g.cells a c).take 33 = nums .u8 g.tx ++ [Value.int .i64 g.out] ∧ (g.cells a c).take 32 = nums .u8 g.tx ∧ ((g.cells a c).drop 34).take 32 = nums .u8 g.me := by
  have l1 : (nums .u8 g.tx).length = 32 := by rw [nums_length, h1]
  have l2 : (nums .u8 g.me).length = 32 := by rw [nums_length, h2]
  unfold Gen.cells
  generalize nums .u8 g.tx = T at *
  generalize nums .u8 g.me = M at *
  refine ⟨?_, ?_, ?_, ?_, ?_, ?_⟩
  · rw [List.append_assoc, List.append_assoc, List.append_assoc, List.getElem?_append_right (by omega), l1]; rfl
  · rw [List.append_assoc, List.append_assoc, List.append_assoc, List.getElem?_append_right (by omega), l1]; rfl
  · rw [List.getElem?_append_right (by simp [l1, l2])]; simp [l1, l2]
  · rw [List.append_assoc, List.append_assoc, List.take_append_of_le_length (by simp [l1]), List.take_of_length_le (by simp [l1])]
  · rw [List.append_assoc, List.append_assoc, List.append_assoc, List.take_append_of_le_length (by omega), List.take_of_length_le (by omega)]
  · rw [List.append_assoc (_ ++ _) M, List.drop_append_of_le_length (by simp [l1]), List.drop_of_length_le (by simp [l1]), List.nil_append, List.take_append_of_le_length (by omega), List.take_of_length_le (by omega)]
def Gen.check (g : Gen) : Nat := if g.nm.length = 0 ∨ (g.kind ≠ 0 ∧ g.kind ≠ 1) ∨ g.out < 0 ∨ 256 ≤ g.out then 1 else if 64 < g.nm.length then 3 else 0
theorem range_new (w : World) (cs : Array Value) (t : TypeId) : (w.alloc (.cells cs t)).rangeAt w.heap.size 0 cs.toList := Bx.newA w cs t
def NumB (w : World) (r : Nat) (e : Ending) (w' : World) : Prop := e = .returned (.int .i64 ((r : Nat) : Int)) ∧ Below w.heap.size w w'
set_option maxHeartbeats 1000000 in
theorem check_walk (g : Gen) (a : Option Addr) (c : Nat) (h1 : g.tx.length = 32) (h2 : g.me.length = 32) (w : World) :
    Calls Tryd.prog 13 #[.agg (g.cells a c).toArray] w (NumB w g.check) := by
  have bb := hid ((Below.refl w.heap.size w).alloc (Nat.le_refl _) (.cells (g.cells a c).toArray 28))
  obtain ⟨e1, e2, e3, _⟩ := Gen.at' a c h1 h2
  have hr := range_new w (g.cells a c).toArray 28
  have c1 := gen_cell hr e1
  have c2 := gen_cell hr e2
  have c3 := gen_cell hr e3
  have hch := hid (show g.check = if g.nm.length = 0 ∨ (g.kind ≠ 0 ∧ g.kind ≠ 1) ∨ g.out < 0 ∨ 256 ≤ g.out then 1 else if 64 < g.nm.length then 3 else 0 from rfl)
  generalize g.check = r at *
  generalize (g.cells a c).toArray = cs at *
  generalize g.kind = k at *
  generalize g.out = o at *
  generalize g.nm.length = n at *
  clear e1 e2 e3 hr h1 h2
  go_enter Tryd.func13, Tryd.ntmps13
  go_wp2
  all_goals (go_ret; refine ⟨?_, bb.out⟩; rw [hch.out])
  all_goals (try simp only [beq_iff_eq, beq_eq_false_iff_ne, ne_eq] at *)
  all_goals (split <;> (try split) <;> first | rfl | (exfalso; omega))
set_option maxHeartbeats 1000000 in
theorem rcheck_walk (g : Gen) (a : Option Addr) (c : Nat) (h1 : g.tx.length = 32) (h2 : g.me.length = 32) (w : World) :
    Calls Tryd.prog 21 #[.agg (g.cells a c).toArray] w (NumB w g.check) := by
  have bb := hid ((Below.refl w.heap.size w).alloc (Nat.le_refl _) (.cells (g.cells a c).toArray 36))
  obtain ⟨e1, e2, e3, _⟩ := Gen.at' a c h1 h2
  have hr := range_new w (g.cells a c).toArray 36
  have c1 := gen_cell hr e1
  have c2 := gen_cell hr e2
  have c3 := gen_cell hr e3
  have hch := hid (show g.check = if g.nm.length = 0 ∨ (g.kind ≠ 0 ∧ g.kind ≠ 1) ∨ g.out < 0 ∨ 256 ≤ g.out then 1 else if 64 < g.nm.length then 3 else 0 from rfl)
  generalize g.check = r at *
  generalize (g.cells a c).toArray = cs at *
  generalize g.kind = k at *
  generalize g.out = o at *
  generalize g.nm.length = n at *
  clear e1 e2 e3 hr h1 h2
  go_enter Tryd.func21, Tryd.ntmps21
  go_wp2
  all_goals (go_ret; refine ⟨?_, bb.out⟩; rw [hch.out])
  all_goals (try simp only [beq_iff_eq, beq_eq_false_iff_ne, ne_eq] at *)
  all_goals (split <;> (try split) <;> first | rfl | (exfalso; omega))
end Go.Proofs.YtgaidleepjkldaaDoor

/- The walk of asset.Encode. Its drawn region is printed by wip/region.py. -/
namespace Go.Proofs.YtgaidleepjkldaaDoor
open Go.RowKit

def Gen.recs (g : Gen) : List Pr := [(0, ptb g.tx g.out.toNat), (2, g.nm), (4, g.me), (6, [g.kind.toNat])]
def Gen.bytes (g : Gen) : List Nat := encAll g.recs
theorem gen_enc {p nm me : List Nat} {k : Nat} (h1 : p.length = 36) (h2 : nm.length ≤ 64) (h3 : me.length = 32) : encE [(0, p), (2, nm), (4, me), (6, [k])] = 0 := by
  simp [encE, encErr, h1, h3]; omega
def GEnc (w : World) (g : Gen) (e : Ending) (w' : World) : Prop := ∃ v, e = .returned (.tuple #[v, .int .i64 ((g.check : Nat) : Int)]) ∧ SlV .u8 w' v (if g.check = 0 then g.bytes else []) ∧ Below w.heap.size w w'
theorem newK {K : Act → World → Prop} {A : Act} {W : World} {T : TypeId} (k : Nat) {v : Value} (hv : v = .int .u8 (k : Int)) (h : ∀ W', Hid (Sl .u8 W' (some ⟨W.heap.size, 0, none⟩) 1 1 [k]) → Hid (Below W.heap.size W W') → K A W') : K A (W.alloc (.cells #[v] T)) := by
  subst hv
  exact h _ (sl_lit .u8 W _ T [k] rfl rfl (by decide)) ((Below.refl _ _).alloc (Nat.le_refl _) _)
theorem newKd {K : Act → World → Prop} {A : Act} {W : World} {T : TypeId} (k : Nat) {v : Value} (hv : v = .int .u8 (k : Int)) (h : ∀ W', Hid (Sl .u8 W' (some ⟨W.heap.size, 0, none⟩) 1 1 [k]) → Hid (Below W.heap.size W W') → K A W') : K A (W.alloc (.cells #[v] T)).drew := by
  subst hv
  exact h _ (sl_lit .u8 W _ T [k] rfl rfl (by decide)) ((Below.refl _ _).alloc (Nat.le_refl _) _).drew
theorem newG {K : Act → World → Prop} {A : Act} {W : World} {T : TypeId} {aA a : Option Addr} {cA c G gk k o : Nat} {tx nm me : List Nat} (hP : (ptb tx o).length = 36) (hM : me.length = 32)
    (b1 : ∀ d ∈ ptb tx o, d < 256) (b2 : ∀ d ∈ nm, d < 256) (l2 : nm.length ≤ 140737488351232) (b3 : ∀ d ∈ me, d < 256) (b4 : k < 256)
    (s1 : Sl .u8 W aA 36 cA (ptb tx o)) (s2 : Sl .u8 W a nm.length c nm) (s3 : Sl .u8 W (some ⟨G, 34, none⟩) 32 32 me) (s4 : Sl .u8 W (some ⟨gk, 0, none⟩) 1 1 [k])
    (h : ∀ W', Hid (Recs W' (some ⟨W.heap.size, 0, none⟩) 4 4 [⟨0, aA, cA, ptb tx o⟩, ⟨2, a, c, nm⟩, ⟨4, some ⟨G, 34, none⟩, 32, me⟩, ⟨6, some ⟨gk, 0, none⟩, 1, [k]⟩]) → Hid (Below W.heap.size W W') → K A W') :
    K A (W.alloc (.cells #[.int .u64 0, .slice aA 36 cA, .int .u64 2, .slice a nm.length c, .int .u64 4, .slice (some ⟨G, 34, none⟩) 32 32, .int .u64 6, .slice (some ⟨gk, 0, none⟩) 1 1] T)) := by
  refine h _ (recs_lit' _ rfl ?_ rfl (by decide) ?_) ((Below.refl _ _).alloc (Nat.le_refl _) _)
  · simp [LR.cells, hP, hM]
  · intro l hl
    simp only [List.mem_cons, List.not_mem_nil, or_false] at hl
    rcases hl with rfl | rfl | rfl | rfl
    · exact ⟨show 0 < 18446744073709551616 by decide, by rw [hP]; exact s1, b1, by rw [hP]; decide⟩
    · exact ⟨show 2 < 18446744073709551616 by decide, s2, b2, l2⟩
    · exact ⟨show 4 < 18446744073709551616 by decide, by show Sl .u8 W _ me.length 32 me; rw [hM]; exact s3, b3, by show me.length ≤ _; rw [hM]; decide⟩
    · exact ⟨show 6 < 18446744073709551616 by decide, s4, by intro d hd; simp at hd; omega, show 1 ≤ 140737488351232 by decide⟩
set_option maxRecDepth 100000 in
set_option maxHeartbeats 4000000 in
theorem genc_walk (g : Gen) (a : Option Addr) (c : Nat) (w : World) (h : g.good w a c) :
    Calls Tryd.prog 6 #[.agg (g.cells a c).toArray] w (GEnc w g) := by
  have b0 := (Below.refl w.heap.size w).alloc (Nat.le_refl _) (.cells (g.cells a c).toArray 28)
  have hr := range_new w (g.cells a c).toArray 28
  have CW := fun wx => hid (check_walk g a c h.tl h.ml wx)
  have h1 := h.below b0
  obtain ⟨e1, e2, e3, e4, _, e6⟩ := Gen.at' a c h.tl h.ml
  have c2 := gen_cell hr e2
  have c3 := gen_cell hr e3
  have rP := gen_range hr 0 33
  rw [List.drop_zero, List.toList_toArray, e4] at rP
  have rM := gen_range hr 34 32
  rw [List.toList_toArray, e6] at rM
  have hiG := hid (show (Tryd.prog.info? 28).map (·.size) = some (g.cells a c).length by rw [Gen.len a c h.tl h.ml]; exact infoGen)
  have B0 := hid b0
  clear e1 e2 e3 e4 e6 b0 h
  go_enter Tryd.func6, Tryd.ntmps6
  go_wp2_with (refine wpList_load_mid rfl _ _ rfl w.heap.size 0 rfl (g.cells a c) _ hr Tryd.underlying28 rfl hiG.out ?_)
  refine (CW _).out.mono ?_
  rintro e w1 ⟨rfl, b1⟩
  have B1 := hid (bstep B0.out b1)
  have h2 := h1.below b1
  have f1 := range_keep b1 rP
  have f2 := cell_keep b1 c2
  have f3 := cell_keep b1 c3
  have fm := range_keep b1 rM
  clear b1 h1 hr rP rM c2 c3 B0 CW hiG
  by_cases hc : g.check = 0
  · have hc' := hid hc
    unfold Gen.check at hc
    split at hc
    · omega
    · rename_i hn1
      split at hc
      · omega
      · rename_i hn2
        obtain ⟨tx, oz, nm, me, kz⟩ := g
        simp only at hn1 hn2 f1 f2 f3 fm hc' ⊢
        obtain ⟨o, rfl⟩ := Int.eq_ofNat_of_zero_le (show 0 ≤ oz by omega)
        obtain ⟨k, rfl⟩ := Int.eq_ofNat_of_zero_le (show 0 ≤ kz by omega)
        have ho : o < 256 := by omega
        have hk : k < 256 := by omega
        have htx : tx.length = 32 := h2.tl
        have hml := hid (show me.length = 32 from h2.ml)
        have hmb := hid (show ∀ d ∈ me, d < 256 from h2.mb)
        have hnb := hid (show ∀ d ∈ nm, d < 256 from h2.nb)
        have hnl := hid (show nm.length ≤ 140737488351232 from h2.nl)
        have hkb := hid hk
        have hPb := hid (ptb_lt h2.tb ho)
        have hl36 := hid (ptb_len o htx)
        have f4 : Sl .u8 w1 a nm.length c nm := h2.sl
        have f5 : Sl .u8 w1 (some ⟨w.heap.size, 34, none⟩) 32 32 me := ⟨by rw [nums_length, hml.out], Nat.le_refl _, by decide, (fun e => by cases e), w.heap.size, 34, fun _ => rfl, fm⟩
        have PK := fun wx => hid (put_walk tx o htx ho wx)
        unfold ptv at PK
        have hi25 : (Tryd.prog.info? 25).map (·.size) = some (nums .u8 tx ++ [Value.int .i64 (o : Int)]).length := by rw [List.length_append, nums_length, htx]; exact infoPt
        have un25 := Tryd.underlying25
        have hE : ∀ aA cA a c G gk, encE (List.map LR.pr [⟨0, aA, cA, ptb tx o⟩, ⟨2, a, c, nm⟩, ⟨4, some ⟨G, 34, none⟩, 32, me⟩, ⟨6, some ⟨gk, 0, none⟩, 1, [k]⟩]) = 0 := fun _ _ _ _ _ _ => gen_enc (p := ptb tx o) (nm := nm) (me := me) hl36.out (by omega) hml.out
        have ew : IntKind.u8.wrap (k : Int) = (k : Int) := u8w hk
        have tc : ((0 : Int) != 0) = false := rfl
        rw [hc'.out]
        obtain ⟨G, hG⟩ : ∃ G, G = w.heap.size := ⟨_, rfl⟩
        rw [← hG] at f1 f2 f3 f5 ⊢
        generalize nums .u8 tx ++ [Value.int .i64 (o : Int)] = PL at *
        clear hc hn1 hn2 h2 fm hG
        go_wp2_with fail
        have keepS : ∀ X Y : World, Below X.heap.size X Y → (X.rangeAt G 0 PL ∧ X.cell? ⟨G, 33, none⟩ = some (.slice a nm.length c) ∧ X.cell? ⟨G, 66, none⟩ = some (.int .i64 (k : Int)) ∧ Sl .u8 X a nm.length c nm ∧ Sl .u8 X (some ⟨G, 34, none⟩) 32 32 me) → (Y.rangeAt G 0 PL ∧ Y.cell? ⟨G, 33, none⟩ = some (.slice a nm.length c) ∧ Y.cell? ⟨G, 66, none⟩ = some (.int .i64 (k : Int)) ∧ Sl .u8 Y a nm.length c nm ∧ Sl .u8 Y (some ⟨G, 34, none⟩) 32 32 me) :=
          fun X Y hb h => ⟨range_keep hb h.1, cell_keep hb h.2.1, cell_keep hb h.2.2.1, h.2.2.2.1.below hb, h.2.2.2.2.below hb⟩
        refine wp_region_held_drew (S := fun w' => w'.rangeAt G 0 PL ∧ w'.cell? ⟨G, 33, none⟩ = some (.slice a nm.length c) ∧ w'.cell? ⟨G, 66, none⟩ = some (.int .i64 (k : Int)) ∧ Sl .u8 w' a nm.length c nm ∧ Sl .u8 w' (some ⟨G, 34, none⟩) 32 32 me) (by kernel_rfl) (⟨f1, f2, f3, f4, f5⟩) (fun hHeld => ?_)
        try simp only [List.size_toArray, List.length_cons, List.length_nil, Nat.reduceAdd, Array.replicate_succ, Array.replicate_zero, List.push_toArray, List.nil_append, List.cons_append]
        refine wpAnyH_take (i := 0) (oi := { dst := some 10, op := Op.fieldAddr 28 (Operand.tmp 1) 0, type := 0, pos := "asset.go:60", after := #[], guard := none }) (v := ?v1) rfl (by kernel_rfl) (by kernel_rfl) (by kernel_rfl) (fun _ _ _ h => h) (Or.inl ⟨by rfl, ?hy1⟩) hHeld ?_
        case hy1 => (intro w hSw; (try dsimp only at hSw); go_simp; (try with_reducible rfl))
        (try simp only [Act.put, List.setIfInBounds_toArray, List.set_cons_zero, List.set_cons_succ])
        refine' wpAnyH_take (i := 1) (oi := { dst := some 11, op := Op.load 25 (Operand.tmp 10), type := 25, pos := "asset.go:60", after := #[{ on := 0, ground := Ground.data }], guard := none }) (v := _) rfl (by kernel_rfl) (by kernel_rfl) (by kernel_rfl) (fun _ _ _ h => h) (yieldsIf_load_mid (by rfl) _ _ rfl G 0 rfl PL _ (fun _ h => h.1) un25 rfl hi25) hHeld ?_
        (try simp only [Act.put, List.setIfInBounds_toArray, List.set_cons_zero, List.set_cons_succ])
        refine wpAnyH_take (i := 4) (oi := { dst := some 14, op := Op.fieldAddr 28 (Operand.tmp 1) 1, type := 0, pos := "asset.go:60", after := #[], guard := none }) (v := ?v2) rfl (by kernel_rfl) (by kernel_rfl) (by kernel_rfl) (fun _ _ _ h => h) (Or.inl ⟨by rfl, ?hy2⟩) hHeld ?_
        case hy2 => (intro w hSw; (try dsimp only at hSw); go_simp; (try with_reducible rfl))
        (try simp only [Act.put, List.setIfInBounds_toArray, List.set_cons_zero, List.set_cons_succ])
        refine wpAnyH_take (i := 5) (oi := { dst := some 15, op := Op.load 26 (Operand.tmp 14), type := 26, pos := "asset.go:60", after := #[{ on := 4, ground := Ground.data }], guard := none }) (v := ?v3) rfl (by kernel_rfl) (by kernel_rfl) (by kernel_rfl) (fun _ _ _ h => h) (Or.inl ⟨by rfl, ?hy3⟩) hHeld ?_
        case hy3 => (intro w hSw; (try dsimp only at hSw); go_simp; (try with_reducible rfl))
        (try simp only [Act.put, List.setIfInBounds_toArray, List.set_cons_zero, List.set_cons_succ])
        refine wpAnyH_take (i := 6) (oi := { dst := some 16, op := Op.build 58 #[(0, Operand.const (Value.int IntKind.u64 2)), (1, Operand.tmp 15)], type := 58, pos := "asset.go:60", after := #[{ on := 5, ground := Ground.data }], guard := none }) (v := ?v4) rfl (by kernel_rfl) (by kernel_rfl) (by kernel_rfl) (fun _ _ _ h => h) (Or.inl ⟨by rfl, ?hy4⟩) hHeld ?_
        case hy4 => (intro w hSw; (try dsimp only at hSw); go_simp; (try with_reducible rfl))
        (try simp only [Act.put, List.setIfInBounds_toArray, List.set_cons_zero, List.set_cons_succ])
        refine wpAnyH_take (i := 7) (oi := { dst := some 17, op := Op.fieldAddr 28 (Operand.tmp 1) 2, type := 0, pos := "asset.go:60", after := #[], guard := none }) (v := ?v5) rfl (by kernel_rfl) (by kernel_rfl) (by kernel_rfl) (fun _ _ _ h => h) (Or.inl ⟨by rfl, ?hy5⟩) hHeld ?_
        case hy5 => (intro w hSw; (try dsimp only at hSw); go_simp; (try with_reducible rfl))
        (try simp only [Act.put, List.setIfInBounds_toArray, List.set_cons_zero, List.set_cons_succ])
        refine wpAnyH_take (i := 8) (oi := { dst := some 18, op := Op.slice 23 (Operand.tmp 17) none none none, type := 26, pos := "asset.go:60", after := #[{ on := 7, ground := Ground.data }], guard := none }) (v := ?v6) rfl (by kernel_rfl) (by kernel_rfl) (by kernel_rfl) (fun _ _ _ h => h) (Or.inl ⟨by rfl, ?hy6⟩) hHeld ?_
        case hy6 => (intro w hSw; (try dsimp only at hSw); go_simp; (try with_reducible rfl))
        (try simp only [Act.put, List.setIfInBounds_toArray, List.set_cons_zero, List.set_cons_succ])
        refine wpAnyH_take (i := 9) (oi := { dst := some 19, op := Op.build 58 #[(0, Operand.const (Value.int IntKind.u64 4)), (1, Operand.tmp 18)], type := 58, pos := "asset.go:60", after := #[{ on := 8, ground := Ground.data }], guard := none }) (v := ?v7) rfl (by kernel_rfl) (by kernel_rfl) (by kernel_rfl) (fun _ _ _ h => h) (Or.inl ⟨by rfl, ?hy7⟩) hHeld ?_
        case hy7 => (intro w hSw; (try dsimp only at hSw); go_simp; (try with_reducible rfl))
        (try simp only [Act.put, List.setIfInBounds_toArray, List.set_cons_zero, List.set_cons_succ])
        refine wpAnyH_take (i := 10) (oi := { dst := some 20, op := Op.fieldAddr 28 (Operand.tmp 1) 3, type := 0, pos := "asset.go:60", after := #[], guard := none }) (v := ?v8) rfl (by kernel_rfl) (by kernel_rfl) (by kernel_rfl) (fun _ _ _ h => h) (Or.inl ⟨by rfl, ?hy8⟩) hHeld ?_
        case hy8 => (intro w hSw; (try dsimp only at hSw); go_simp; (try with_reducible rfl))
        (try simp only [Act.put, List.setIfInBounds_toArray, List.set_cons_zero, List.set_cons_succ])
        refine wpAnyH_take (i := 11) (oi := { dst := some 21, op := Op.load 3 (Operand.tmp 20), type := 3, pos := "asset.go:60", after := #[{ on := 10, ground := Ground.data }], guard := none }) (v := ?v9) rfl (by kernel_rfl) (by kernel_rfl) (by kernel_rfl) (fun _ _ _ h => h) (Or.inl ⟨by rfl, ?hy9⟩) hHeld ?_
        case hy9 => (intro w hSw; (try dsimp only at hSw); go_simp; (try with_reducible rfl))
        (try simp only [Act.put, List.setIfInBounds_toArray, List.set_cons_zero, List.set_cons_succ])
        refine wpAnyH_take (i := 12) (oi := { dst := some 22, op := Op.convert 3 5 (Operand.tmp 21), type := 5, pos := "asset.go:60", after := #[{ on := 11, ground := Ground.data }], guard := none }) (v := ?v10) rfl (by kernel_rfl) (by kernel_rfl) (by kernel_rfl) (fun _ _ _ h => h) (Or.inl ⟨by rfl, ?hy10⟩) hHeld ?_
        case hy10 => (intro w hSw; (try dsimp only at hSw); go_simp; (try with_reducible rfl))
        (try simp only [Act.put, List.setIfInBounds_toArray, List.set_cons_zero, List.set_cons_succ])
        refine wpAnyH_ready (rs := [2, 13]) (by kernel_rfl) (by simp) ?_
        refine AllReadyH.cons (o := { dst := some 12, op := Op.call { callee := Callee.value (Operand.func 18), args := #[Operand.tmp 11], argTypes := #[25] }, type := 26, pos := "asset.go:60", after := #[{ on := 1, ground := Ground.data }], guard := none }) rfl (fun K hK => ?_) ?_
        go_simp; refine (PK _).out.mono ?_; rintro e wA ⟨vA, rfl, _, oA, bA⟩; obtain ⟨aA, cA, rfl, sA⟩ := SlV.of_owns oA; rw [hl36.out] at sA ⊢; clear oA; (try have sK' := sK.out.below bA)
        refine hK.out _ _ (keepS _ _ bA hHeld) (fun hHeld => ?_)
        clear hK K
        (try simp only [List.setIfInBounds_toArray, List.set_cons_zero, List.set_cons_succ])
        refine wpAnyH_take (i := 3) (oi := { dst := some 13, op := Op.build 58 #[(0, Operand.const (Value.int IntKind.u64 0)), (1, Operand.tmp 12)], type := 58, pos := "asset.go:60", after := #[{ on := 2, ground := Ground.data }], guard := none }) (v := ?v11) rfl (by kernel_rfl) (by kernel_rfl) (by kernel_rfl) (fun _ _ _ h => h) (Or.inl ⟨by rfl, ?hy11⟩) hHeld ?_
        case hy11 => (intro w hSw; (try dsimp only at hSw); go_simp; (try with_reducible rfl))
        (try simp only [Act.put, List.setIfInBounds_toArray, List.set_cons_zero, List.set_cons_succ])
        refine wpAnyH_ready (rs := [13]) (by kernel_rfl) (by simp) ?_
        refine AllReadyH.cons (o := { dst := some 23, op := Op.buildSlice 26 1 #[(0, Operand.tmp 22)], type := 26, pos := "asset.go:60", after := #[{ on := 12, ground := Ground.data }], guard := none }) rfl (fun K hK => ?_) ?_
        go_simp; (first | refine newK k rfl ?_ | refine newKd k rfl ?_); intro wK sK bK; (try have sA' := sA.below bK.out)
        refine hK.out _ _ (keepS _ _ bK.out hHeld) (fun hHeld => ?_)
        clear hK K
        (try simp only [List.setIfInBounds_toArray, List.set_cons_zero, List.set_cons_succ])
        refine wpAnyH_take (i := 14) (oi := { dst := some 24, op := Op.build 58 #[(0, Operand.const (Value.int IntKind.u64 6)), (1, Operand.tmp 23)], type := 58, pos := "asset.go:60", after := #[{ on := 13, ground := Ground.data }], guard := none }) (v := ?v12) rfl (by kernel_rfl) (by kernel_rfl) (by kernel_rfl) (fun _ _ _ h => h) (Or.inl ⟨by rfl, ?hy12⟩) hHeld ?_
        case hy12 => (intro w hSw; (try dsimp only at hSw); go_simp; (try with_reducible rfl))
        (try simp only [Act.put, List.setIfInBounds_toArray, List.set_cons_zero, List.set_cons_succ])
        refine wpAnyH_ready (rs := [15]) (by kernel_rfl) (by simp) ?_
        refine AllReadyH.cons (o := { dst := some 25, op := Op.buildSlice 59 4 #[(0, Operand.tmp 13), (1, Operand.tmp 16), (2, Operand.tmp 19), (3, Operand.tmp 24)], type := 59, pos := "asset.go:60", after := #[{ on := 3, ground := Ground.data }, { on := 6, ground := Ground.data }, { on := 9, ground := Ground.data }, { on := 14, ground := Ground.data }], guard := none }) rfl (fun K hK => ?_) ?_
        go_simp; (first | refine newG hl36.out hml.out hPb.out hnb.out hnl.out hmb.out hkb.out sA' hHeld.2.2.2.1 hHeld.2.2.2.2 sK.out ?_ | refine newG hl36.out hml.out hPb.out hnb.out hnl.out hmb.out hkb.out sA hHeld.2.2.2.1 hHeld.2.2.2.2 sK' ?_); intro wR rR bR
        refine hK.out _ _ (keepS _ _ bR.out hHeld) (fun hHeld => ?_)
        clear hK K
        (try simp only [List.setIfInBounds_toArray, List.set_cons_zero, List.set_cons_succ])
        refine wpAnyH_ready (rs := [16]) (by kernel_rfl) (by simp) ?_
        refine AllReadyH.cons (o := { dst := some 26, op := Op.call { callee := Callee.value (Operand.func 17), args := #[Operand.tmp 25], argTypes := #[59] }, type := 31, pos := "asset.go:60", after := #[{ on := 15, ground := Ground.data }, { on := 2, ground := Ground.chain }], guard := none }) rfl (fun K hK => ?_) ?_
        go_simp; refine (enc_walk _ _ _ _ _ rR.out).mono ?_; rintro e wE ⟨vE, rfl, sE, bE⟩; rw [hE] at sE ⊢; rw [if_pos rfl] at sE
        refine hK.out _ _ (keepS _ _ bE hHeld) (fun hHeld => ?_)
        clear hK K
        (try simp only [List.setIfInBounds_toArray, List.set_cons_zero, List.set_cons_succ])
        refine wpAnyH_take (i := 17) (oi := { dst := some 27, op := Op.extract (Operand.tmp 26) 0, type := 26, pos := "asset.go:60", after := #[{ on := 16, ground := Ground.data }], guard := none }) (v := ?v13) rfl (by kernel_rfl) (by kernel_rfl) (by kernel_rfl) (fun _ _ _ h => h) (Or.inl ⟨by rfl, ?hy13⟩) hHeld ?_
        case hy13 => (intro w hSw; (try dsimp only at hSw); go_simp; (try with_reducible rfl))
        (try simp only [Act.put, List.setIfInBounds_toArray, List.set_cons_zero, List.set_cons_succ])
        refine wpAnyH_take (i := 18) (oi := { dst := some 28, op := Op.extract (Operand.tmp 26) 1, type := 30, pos := "asset.go:60", after := #[{ on := 16, ground := Ground.data }], guard := none }) (v := ?v14) rfl (by kernel_rfl) (by kernel_rfl) (by kernel_rfl) (fun _ _ _ h => h) (Or.inl ⟨by rfl, ?hy14⟩) hHeld ?_
        case hy14 => (intro w hSw; (try dsimp only at hSw); go_simp; (try with_reducible rfl))
        (try simp only [Act.put, List.setIfInBounds_toArray, List.set_cons_zero, List.set_cons_succ])
        refine wpAnyH_take (i := 19) (oi := { dst := some 2, op := Op.assign (Operand.tmp 27), type := 26, pos := "asset.go:60", after := #[{ on := 17, ground := Ground.data }, { on := 16, ground := Ground.chain }, { on := 0, ground := Ground.phase }, { on := 1, ground := Ground.phase }, { on := 2, ground := Ground.phase }, { on := 3, ground := Ground.phase }, { on := 4, ground := Ground.phase }, { on := 5, ground := Ground.phase }, { on := 6, ground := Ground.phase }, { on := 7, ground := Ground.phase }, { on := 8, ground := Ground.phase }, { on := 9, ground := Ground.phase }, { on := 10, ground := Ground.phase }, { on := 11, ground := Ground.phase }, { on := 12, ground := Ground.phase }, { on := 13, ground := Ground.phase }, { on := 14, ground := Ground.phase }, { on := 15, ground := Ground.phase }, { on := 16, ground := Ground.phase }, { on := 17, ground := Ground.phase }, { on := 18, ground := Ground.phase }], guard := none }) (v := ?v15) rfl (by kernel_rfl) (by kernel_rfl) (by kernel_rfl) (fun _ _ _ h => h) (Or.inl ⟨by rfl, ?hy15⟩) hHeld ?_
        case hy15 => (intro w hSw; (try dsimp only at hSw); go_simp; (try with_reducible rfl))
        (try simp only [Act.put, List.setIfInBounds_toArray, List.set_cons_zero, List.set_cons_succ])
        refine wpAnyH_take (i := 20) (oi := { dst := some 3, op := Op.assign (Operand.tmp 28), type := 30, pos := "asset.go:60", after := #[{ on := 18, ground := Ground.data }, { on := 19, ground := Ground.chain }, { on := 0, ground := Ground.phase }, { on := 1, ground := Ground.phase }, { on := 2, ground := Ground.phase }, { on := 3, ground := Ground.phase }, { on := 4, ground := Ground.phase }, { on := 5, ground := Ground.phase }, { on := 6, ground := Ground.phase }, { on := 7, ground := Ground.phase }, { on := 8, ground := Ground.phase }, { on := 9, ground := Ground.phase }, { on := 10, ground := Ground.phase }, { on := 11, ground := Ground.phase }, { on := 12, ground := Ground.phase }, { on := 13, ground := Ground.phase }, { on := 14, ground := Ground.phase }, { on := 15, ground := Ground.phase }, { on := 16, ground := Ground.phase }, { on := 17, ground := Ground.phase }, { on := 18, ground := Ground.phase }, { on := 19, ground := Ground.phase }], guard := none }) (v := ?v16) rfl (by kernel_rfl) (by kernel_rfl) (by kernel_rfl) (fun _ _ _ h => h) (Or.inl ⟨by rfl, ?hy16⟩) hHeld ?_
        case hy16 => (intro w hSw; (try dsimp only at hSw); go_simp; (try with_reducible rfl))
        (try simp only [Act.put, List.setIfInBounds_toArray, List.set_cons_zero, List.set_cons_succ])
        refine wpAnyH_done (by kernel_rfl) ?_ _
        rotate_left
        exact AllReadyH.nil
        exact AllReadyH.nil
        exact AllReadyH.nil
        refine AllReadyH.cons (o := { dst := some 23, op := Op.buildSlice 26 1 #[(0, Operand.tmp 22)], type := 26, pos := "asset.go:60", after := #[{ on := 12, ground := Ground.data }], guard := none }) rfl (fun K hK => ?_) ?_
        go_simp; (first | refine newK k rfl ?_ | refine newKd k rfl ?_); intro wK sK bK; (try have sA' := sA.below bK.out)
        refine hK.out _ _ (keepS _ _ bK.out hHeld) (fun hHeld => ?_)
        clear hK K
        (try simp only [List.setIfInBounds_toArray, List.set_cons_zero, List.set_cons_succ])
        refine wpAnyH_take (i := 14) (oi := { dst := some 24, op := Op.build 58 #[(0, Operand.const (Value.int IntKind.u64 6)), (1, Operand.tmp 23)], type := 58, pos := "asset.go:60", after := #[{ on := 13, ground := Ground.data }], guard := none }) (v := ?v17) rfl (by kernel_rfl) (by kernel_rfl) (by kernel_rfl) (fun _ _ _ h => h) (Or.inl ⟨by rfl, ?hy17⟩) hHeld ?_
        case hy17 => (intro w hSw; (try dsimp only at hSw); go_simp; (try with_reducible rfl))
        (try simp only [Act.put, List.setIfInBounds_toArray, List.set_cons_zero, List.set_cons_succ])
        refine wpAnyH_ready (rs := [2]) (by kernel_rfl) (by simp) ?_
        refine AllReadyH.cons (o := { dst := some 12, op := Op.call { callee := Callee.value (Operand.func 18), args := #[Operand.tmp 11], argTypes := #[25] }, type := 26, pos := "asset.go:60", after := #[{ on := 1, ground := Ground.data }], guard := none }) rfl (fun K hK => ?_) ?_
        go_simp; refine (PK _).out.mono ?_; rintro e wA ⟨vA, rfl, _, oA, bA⟩; obtain ⟨aA, cA, rfl, sA⟩ := SlV.of_owns oA; rw [hl36.out] at sA ⊢; clear oA; (try have sK' := sK.out.below bA)
        refine hK.out _ _ (keepS _ _ bA hHeld) (fun hHeld => ?_)
        clear hK K
        (try simp only [List.setIfInBounds_toArray, List.set_cons_zero, List.set_cons_succ])
        refine wpAnyH_take (i := 3) (oi := { dst := some 13, op := Op.build 58 #[(0, Operand.const (Value.int IntKind.u64 0)), (1, Operand.tmp 12)], type := 58, pos := "asset.go:60", after := #[{ on := 2, ground := Ground.data }], guard := none }) (v := ?v18) rfl (by kernel_rfl) (by kernel_rfl) (by kernel_rfl) (fun _ _ _ h => h) (Or.inl ⟨by rfl, ?hy18⟩) hHeld ?_
        case hy18 => (intro w hSw; (try dsimp only at hSw); go_simp; (try with_reducible rfl))
        (try simp only [Act.put, List.setIfInBounds_toArray, List.set_cons_zero, List.set_cons_succ])
        refine wpAnyH_ready (rs := [15]) (by kernel_rfl) (by simp) ?_
        refine AllReadyH.cons (o := { dst := some 25, op := Op.buildSlice 59 4 #[(0, Operand.tmp 13), (1, Operand.tmp 16), (2, Operand.tmp 19), (3, Operand.tmp 24)], type := 59, pos := "asset.go:60", after := #[{ on := 3, ground := Ground.data }, { on := 6, ground := Ground.data }, { on := 9, ground := Ground.data }, { on := 14, ground := Ground.data }], guard := none }) rfl (fun K hK => ?_) ?_
        go_simp; (first | refine newG hl36.out hml.out hPb.out hnb.out hnl.out hmb.out hkb.out sA' hHeld.2.2.2.1 hHeld.2.2.2.2 sK.out ?_ | refine newG hl36.out hml.out hPb.out hnb.out hnl.out hmb.out hkb.out sA hHeld.2.2.2.1 hHeld.2.2.2.2 sK' ?_); intro wR rR bR
        refine hK.out _ _ (keepS _ _ bR.out hHeld) (fun hHeld => ?_)
        clear hK K
        (try simp only [List.setIfInBounds_toArray, List.set_cons_zero, List.set_cons_succ])
        refine wpAnyH_ready (rs := [16]) (by kernel_rfl) (by simp) ?_
        refine AllReadyH.cons (o := { dst := some 26, op := Op.call { callee := Callee.value (Operand.func 17), args := #[Operand.tmp 25], argTypes := #[59] }, type := 31, pos := "asset.go:60", after := #[{ on := 15, ground := Ground.data }, { on := 2, ground := Ground.chain }], guard := none }) rfl (fun K hK => ?_) ?_
        go_simp; refine (enc_walk _ _ _ _ _ rR.out).mono ?_; rintro e wE ⟨vE, rfl, sE, bE⟩; rw [hE] at sE ⊢; rw [if_pos rfl] at sE
        refine hK.out _ _ (keepS _ _ bE hHeld) (fun hHeld => ?_)
        clear hK K
        (try simp only [List.setIfInBounds_toArray, List.set_cons_zero, List.set_cons_succ])
        refine wpAnyH_take (i := 17) (oi := { dst := some 27, op := Op.extract (Operand.tmp 26) 0, type := 26, pos := "asset.go:60", after := #[{ on := 16, ground := Ground.data }], guard := none }) (v := ?v19) rfl (by kernel_rfl) (by kernel_rfl) (by kernel_rfl) (fun _ _ _ h => h) (Or.inl ⟨by rfl, ?hy19⟩) hHeld ?_
        case hy19 => (intro w hSw; (try dsimp only at hSw); go_simp; (try with_reducible rfl))
        (try simp only [Act.put, List.setIfInBounds_toArray, List.set_cons_zero, List.set_cons_succ])
        refine wpAnyH_take (i := 18) (oi := { dst := some 28, op := Op.extract (Operand.tmp 26) 1, type := 30, pos := "asset.go:60", after := #[{ on := 16, ground := Ground.data }], guard := none }) (v := ?v20) rfl (by kernel_rfl) (by kernel_rfl) (by kernel_rfl) (fun _ _ _ h => h) (Or.inl ⟨by rfl, ?hy20⟩) hHeld ?_
        case hy20 => (intro w hSw; (try dsimp only at hSw); go_simp; (try with_reducible rfl))
        (try simp only [Act.put, List.setIfInBounds_toArray, List.set_cons_zero, List.set_cons_succ])
        refine wpAnyH_take (i := 19) (oi := { dst := some 2, op := Op.assign (Operand.tmp 27), type := 26, pos := "asset.go:60", after := #[{ on := 17, ground := Ground.data }, { on := 16, ground := Ground.chain }, { on := 0, ground := Ground.phase }, { on := 1, ground := Ground.phase }, { on := 2, ground := Ground.phase }, { on := 3, ground := Ground.phase }, { on := 4, ground := Ground.phase }, { on := 5, ground := Ground.phase }, { on := 6, ground := Ground.phase }, { on := 7, ground := Ground.phase }, { on := 8, ground := Ground.phase }, { on := 9, ground := Ground.phase }, { on := 10, ground := Ground.phase }, { on := 11, ground := Ground.phase }, { on := 12, ground := Ground.phase }, { on := 13, ground := Ground.phase }, { on := 14, ground := Ground.phase }, { on := 15, ground := Ground.phase }, { on := 16, ground := Ground.phase }, { on := 17, ground := Ground.phase }, { on := 18, ground := Ground.phase }], guard := none }) (v := ?v21) rfl (by kernel_rfl) (by kernel_rfl) (by kernel_rfl) (fun _ _ _ h => h) (Or.inl ⟨by rfl, ?hy21⟩) hHeld ?_
        case hy21 => (intro w hSw; (try dsimp only at hSw); go_simp; (try with_reducible rfl))
        (try simp only [Act.put, List.setIfInBounds_toArray, List.set_cons_zero, List.set_cons_succ])
        refine wpAnyH_take (i := 20) (oi := { dst := some 3, op := Op.assign (Operand.tmp 28), type := 30, pos := "asset.go:60", after := #[{ on := 18, ground := Ground.data }, { on := 19, ground := Ground.chain }, { on := 0, ground := Ground.phase }, { on := 1, ground := Ground.phase }, { on := 2, ground := Ground.phase }, { on := 3, ground := Ground.phase }, { on := 4, ground := Ground.phase }, { on := 5, ground := Ground.phase }, { on := 6, ground := Ground.phase }, { on := 7, ground := Ground.phase }, { on := 8, ground := Ground.phase }, { on := 9, ground := Ground.phase }, { on := 10, ground := Ground.phase }, { on := 11, ground := Ground.phase }, { on := 12, ground := Ground.phase }, { on := 13, ground := Ground.phase }, { on := 14, ground := Ground.phase }, { on := 15, ground := Ground.phase }, { on := 16, ground := Ground.phase }, { on := 17, ground := Ground.phase }, { on := 18, ground := Ground.phase }, { on := 19, ground := Ground.phase }], guard := none }) (v := ?v22) rfl (by kernel_rfl) (by kernel_rfl) (by kernel_rfl) (fun _ _ _ h => h) (Or.inl ⟨by rfl, ?hy22⟩) hHeld ?_
        case hy22 => (intro w hSw; (try dsimp only at hSw); go_simp; (try with_reducible rfl))
        (try simp only [Act.put, List.setIfInBounds_toArray, List.set_cons_zero, List.set_cons_succ])
        refine wpAnyH_done (by kernel_rfl) ?_ _
        rotate_left
        exact AllReadyH.nil
        exact AllReadyH.nil
        exact AllReadyH.nil
        exact AllReadyH.nil
        all_goals
          have BZ : Below w.heap.size w wE := by
            first
              | exact bstep (bstep (bstep (bstep (bstep B1.out ((Below.refl _ _).drew)) bA) bK.out) bR.out) bE
              | exact bstep (bstep (bstep (bstep B1.out bK.out) bA) bR.out) bE
          have HBZ := hid BZ
          have SE := hid sE
          clear BZ sE bE bA keepS hHeld PK hE rR bR bK sK sA
          go_wp2
          go_ret2
          exact ⟨vE, by rw [hc'.out]; rfl, by rw [if_pos hc'.out]; exact SE.out, HBZ.out⟩
  · have te : (((g.check : Nat) : Int) != 0) = true := by simp; omega
    have HC := hid hc
    clear hc
    go_wp2
    go_ret2
    exact ⟨_, rfl, by rw [if_neg HC.out]; exact ⟨none, 0, rfl, Sl.nilS _ _ (by decide) (fun _ => rfl)⟩, B1.out⟩
end Go.Proofs.YtgaidleepjkldaaDoor

/- What a genesis' bytes are read as; two builds. Printed in part by a program. -/
namespace Go.Proofs.YtgaidleepjkldaaDoor
open Go.RowKit

def gz : Gen := ⟨pzero, 0, [], pzero, 0⟩
/-- the genesis that four records are, or why they are none -/
def fourG (r0 r1 r2 r3 : Pr) : Gen × Nat :=
  if r0.1 ≠ 0 ∨ r1.1 ≠ 2 ∨ r2.1 ≠ 4 ∨ r3.1 ≠ 6 then (gz, 23) else if r2.2.length ≠ 32 ∨ r3.2.length ≠ 1 then (gz, 21) else if (getP r0.2).2.2 ≠ 0 then (gz, (getP r0.2).2.2) else
  if (Gen.mk (getP r0.2).1 ((getP r0.2).2.1 : Nat) r1.2 r2.2 ((r3.2.getD 0 0 : Nat))).check ≠ 0 then (gz, (Gen.mk (getP r0.2).1 ((getP r0.2).2.1 : Nat) r1.2 r2.2 ((r3.2.getD 0 0 : Nat))).check) else (Gen.mk (getP r0.2).1 ((getP r0.2).2.1 : Nat) r1.2 r2.2 ((r3.2.getD 0 0 : Nat)), 0)
def recsG : List Pr → Gen × Nat
  | [r0, r1, r2, r3] => fourG r0 r1 r2 r3
  | _ => (gz, 21)
def decG (bs : List Nat) : Gen × Nat := if (decS bs).2 ≠ 0 then (gz, (decS bs).2) else recsG (decS bs).1
theorem recsG_len {rs : List Pr} (h : rs.length ≠ 4) : recsG rs = (gz, 21) := by
  match rs, h with
  | [], _ => rfl
  | [_], _ => rfl
  | [_, _], _ => rfl
  | [_, _, _], _ => rfl
  | [_, _, _, _], h => exact absurd rfl h
  | _ :: _ :: _ :: _ :: _ :: _, _ => rfl
theorem gz_cells : (gz.cells none 0).toArray = genZ 0 := by
  have h : Value.agg (gz.cells none 0).toArray = .agg (genZ 0) := by kernel_rfl
  exact Value.agg.inj h
theorem gz_good (w : World) : gz.good w none 0 := ⟨rfl, by intro d hd; simp [gz, pzero] at hd; omega, rfl, by intro d hd; simp [gz, pzero] at hd; omega, by simp [gz], by decide, by decide, by decide, Sl.nilS _ _ (by decide) (fun _ => rfl)⟩
def GDec (w : World) (bs : List Nat) (e : Ending) (w' : World) : Prop := ∃ a c, e = .returned (.tuple #[.agg ((decG bs).1.cells a c).toArray, .int .i64 (((decG bs).2 : Nat) : Int)]) ∧ (decG bs).1.good w' a c ∧ Below w.heap.size w w'
theorem GDec.bad {w w' : World} {bs : List Nat} {z : Int} {k : Nat} (h : decG bs = (gz, k)) (hz : z = (k : Int)) (b : Below w.heap.size w w') : GDec w bs (.returned (.tuple #[.agg (genZ 0), .int .i64 z])) w' :=
  ⟨none, 0, by rw [h, ← gz_cells, hz], by rw [h]; exact gz_good w', b⟩
theorem built_gen' (a0 a1 a2 a3 a4 a5 a6 a7 a8 a9 a10 a11 a12 a13 a14 a15 a16 a17 a18 a19 a20 a21 a22 a23 a24 a25 a26 a27 a28 a29 a30 a31 b0 b1 b2 b3 b4 b5 b6 b7 b8 b9 b10 b11 b12 b13 b14 b15 b16 b17 b18 b19 b20 b21 b22 b23 b24 b25 b26 b27 b28 b29 b30 b31 : Nat) (n c : Nat) (p : Option Addr) (o k : Int) : Tryd.prog.built 28 [(0, .agg ((nums .u8 [a0, a1, a2, a3, a4, a5, a6, a7, a8, a9, a10, a11, a12, a13, a14, a15, a16, a17, a18, a19, a20, a21, a22, a23, a24, a25, a26, a27, a28, a29, a30, a31]) ++ [Value.int .i64 o]).toArray), (1, .slice p n c), (2, .agg (nums .u8 [b0, b1, b2, b3, b4, b5, b6, b7, b8, b9, b10, b11, b12, b13, b14, b15, b16, b17, b18, b19, b20, b21, b22, b23, b24, b25, b26, b27, b28, b29, b30, b31]).toArray), (3, .int .i64 k)] = some (((nums .u8 [a0, a1, a2, a3, a4, a5, a6, a7, a8, a9, a10, a11, a12, a13, a14, a15, a16, a17, a18, a19, a20, a21, a22, a23, a24, a25, a26, a27, a28, a29, a30, a31]) ++ [Value.int .i64 o]) ++ [Value.slice p n c] ++ (nums .u8 [b0, b1, b2, b3, b4, b5, b6, b7, b8, b9, b10, b11, b12, b13, b14, b15, b16, b17, b18, b19, b20, b21, b22, b23, b24, b25, b26, b27, b28, b29, b30, b31]) ++ [Value.int .i64 k]).toArray := by kernel_rfl
theorem built_gen (g : Gen) (a : Option Addr) (c : Nat) (h1 : g.tx.length = 32) (h2 : g.me.length = 32) :
    Tryd.prog.built 28 [(0, .agg (nums .u8 g.tx ++ [Value.int .i64 g.out]).toArray), (1, .slice a g.nm.length c), (2, .agg (nums .u8 g.me).toArray), (3, .int .i64 g.kind)] = some (g.cells a c).toArray := by
  obtain ⟨tx, o, nm, me, k⟩ := g
  match tx, h1, me, h2 with
  | [a0, a1, a2, a3, a4, a5, a6, a7, a8, a9, a10, a11, a12, a13, a14, a15, a16, a17, a18, a19, a20, a21, a22, a23, a24, a25, a26, a27, a28, a29, a30, a31], _, [b0, b1, b2, b3, b4, b5, b6, b7, b8, b9, b10, b11, b12, b13, b14, b15, b16, b17, b18, b19, b20, b21, b22, b23, b24, b25, b26, b27, b28, b29, b30, b31], _ => exact built_gen' a0 a1 a2 a3 a4 a5 a6 a7 a8 a9 a10 a11 a12 a13 a14 a15 a16 a17 a18 a19 a20 a21 a22 a23 a24 a25 a26 a27 a28 a29 a30 a31 b0 b1 b2 b3 b4 b5 b6 b7 b8 b9 b10 b11 b12 b13 b14 b15 b16 b17 b18 b19 b20 b21 b22 b23 b24 b25 b26 b27 b28 b29 b30 b31 nm.length c a o k
theorem built_rgen' (a0 a1 a2 a3 a4 a5 a6 a7 a8 a9 a10 a11 a12 a13 a14 a15 a16 a17 a18 a19 a20 a21 a22 a23 a24 a25 a26 a27 a28 a29 a30 a31 b0 b1 b2 b3 b4 b5 b6 b7 b8 b9 b10 b11 b12 b13 b14 b15 b16 b17 b18 b19 b20 b21 b22 b23 b24 b25 b26 b27 b28 b29 b30 b31 : Nat) (n c : Nat) (p : Option Addr) (o k : Int) : Tryd.prog.built 36 [(0, .agg (nums .u8 [a0, a1, a2, a3, a4, a5, a6, a7, a8, a9, a10, a11, a12, a13, a14, a15, a16, a17, a18, a19, a20, a21, a22, a23, a24, a25, a26, a27, a28, a29, a30, a31]).toArray), (1, .int .i64 o), (2, .slice p n c), (3, .agg (nums .u8 [b0, b1, b2, b3, b4, b5, b6, b7, b8, b9, b10, b11, b12, b13, b14, b15, b16, b17, b18, b19, b20, b21, b22, b23, b24, b25, b26, b27, b28, b29, b30, b31]).toArray), (4, .int .i64 k)] = some (((nums .u8 [a0, a1, a2, a3, a4, a5, a6, a7, a8, a9, a10, a11, a12, a13, a14, a15, a16, a17, a18, a19, a20, a21, a22, a23, a24, a25, a26, a27, a28, a29, a30, a31]) ++ [Value.int .i64 o]) ++ [Value.slice p n c] ++ (nums .u8 [b0, b1, b2, b3, b4, b5, b6, b7, b8, b9, b10, b11, b12, b13, b14, b15, b16, b17, b18, b19, b20, b21, b22, b23, b24, b25, b26, b27, b28, b29, b30, b31]) ++ [Value.int .i64 k]).toArray := by kernel_rfl
theorem built_rgen (g : Gen) (a : Option Addr) (c : Nat) (h1 : g.tx.length = 32) (h2 : g.me.length = 32) :
    Tryd.prog.built 36 [(0, .agg (nums .u8 g.tx).toArray), (1, .int .i64 g.out), (2, .slice a g.nm.length c), (3, .agg (nums .u8 g.me).toArray), (4, .int .i64 g.kind)] = some (g.cells a c).toArray := by
  obtain ⟨tx, o, nm, me, k⟩ := g
  match tx, h1, me, h2 with
  | [a0, a1, a2, a3, a4, a5, a6, a7, a8, a9, a10, a11, a12, a13, a14, a15, a16, a17, a18, a19, a20, a21, a22, a23, a24, a25, a26, a27, a28, a29, a30, a31], _, [b0, b1, b2, b3, b4, b5, b6, b7, b8, b9, b10, b11, b12, b13, b14, b15, b16, b17, b18, b19, b20, b21, b22, b23, b24, b25, b26, b27, b28, b29, b30, b31], _ => exact built_rgen' a0 a1 a2 a3 a4 a5 a6 a7 a8 a9 a10 a11 a12 a13 a14 a15 a16 a17 a18 a19 a20 a21 a22 a23 a24 a25 a26 a27 a28 a29 a30 a31 b0 b1 b2 b3 b4 b5 b6 b7 b8 b9 b10 b11 b12 b13 b14 b15 b16 b17 b18 b19 b20 b21 b22 b23 b24 b25 b26 b27 b28 b29 b30 b31 nm.length c a o k
theorem zeroRGen (w : World) : (zeroValue 36).run Tryd.prog w = .ok (.agg (genZ 0)) w := by
  have h : (Tryd.prog.info? 36).map (·.zero) = some (some (.agg (genZ 0))) := by kernel_rfl
  cases hi : Tryd.prog.info? 36 with
  | none => rw [hi] at h; cases h
  | some i =>
    rw [hi] at h
    simp only [Option.map_some, Option.some.injEq] at h
    simp [zeroValue, typeInfo, hi, h]
theorem infoRGen : (Tryd.prog.info? 36).map (·.size) = some 67 := by kernel_rfl
theorem genZ_one : (genZ 0).all (·.oneCell') = true := by kernel_rfl
end Go.Proofs.YtgaidleepjkldaaDoor

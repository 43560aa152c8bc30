/- An office of tokens: what it knows; how many; a new one. -/
import Derived.Test.YtdopbhahcpjjgaaDoorTok
namespace Go.Proofs.YtdopbhahcpjjgaaDoor
open Go.RowKit

theorem keyEnt : KeyT 97 3 := ⟨by kernel_rfl, by kernel_rfl, by kernel_rfl, by decide, by kernel_rfl⟩
theorem kl_ent {d : Nat} {x y : List Nat} (hx : EH.ok x) (hy : EH.ok y) : KL (d + 3) 97 (nums .u8 (x ++ y)) := by
  refine KL.struct Tryd.underlying97 (by rw [nums_length, List.length_append, hx.1, hy.1]; kernel_rfl) (by kernel_rfl) fun f hf => ?_
  have hc : Tryd.prog.cellsOf 27 = 32 := by kernel_rfl
  have e : nums .u8 (x ++ y) = nums .u8 x ++ nums .u8 y := (nums_append .u8 x y).symm
  simp only [List.mem_cons, List.not_mem_nil, or_false] at hf
  rcases hf with rfl | rfl
  · rw [e, List.drop_zero, hc, List.take_left' (by rw [nums_length, hx.1])]
    exact KL.bytes (d := d) Tryd.underlying27 (by kernel_rfl) hx.1 hx.2
  · rw [e, hc, List.drop_left' (by rw [nums_length, hx.1]), List.take_of_length_le (by rw [nums_length, hy.1]; exact Nat.le_refl _)]
    exact KL.bytes (d := d) Tryd.underlying27 (by kernel_rfl) hy.1 hy.2
theorem kv_ent {x y : List Nat} (hx : EH.ok x) (hy : EH.ok y) : KV 97 (.agg (nums .u8 (x ++ y)).toArray) :=
  KV.mk keyEnt.wide (by kernel_rfl) (by rw [nums_length, List.length_append, hx.1, hy.1]; kernel_rfl) (fun d => kl_ent (d := d + 5) hx hy)
theorem ent_inj {x y a b : List Nat} (hx : EH.ok x) (ha : EH.ok a) : Value.agg (nums .u8 (x ++ y)).toArray = .agg (nums .u8 (a ++ b)).toArray ↔ (x = a ∧ y = b) := by
  constructor
  · intro h
    have h1 := congrArg Array.toList (Value.agg.inj h)
    have h2 := nums_inj h1
    exact List.append_inj h2 (by rw [hx.1, ha.1])
  · rintro ⟨rfl, rfl⟩; rfl
/-- is it one that was given: by this owner, for this? -/
def aldB (M : EM) (ow what tk : List Nat) : Bool := decide (M tk = some (ow, what))
def AldRes (b : Bool) (w : World) (e : Ending) (w' : World) : Prop := e = .returned (.bool b) ∧ Below w.heap.size w w'
set_option maxRecDepth 100000 in
set_option maxHeartbeats 8000000 in
theorem allowed_walk (ow what tk : List Nat) (hoo : EH.ok ow) (hwo : EH.ok what) (htk : EH.ok tk) (ob mb n : Nat) (M : EM) (w : World) (h : OffAt w ob mb M n) :
    Calls Tryd.prog 45 #[.pointer (some ⟨ob, 0, none⟩), hv ow, hv what, hv tk] w (AldRes (aldB M ow what tk) w) := by
  have HO := hid h
  have A3 := alloc3p w (.cells (nums .u8 ow).toArray 27) (.cells (nums .u8 what).toArray 27) (.cells (nums .u8 tk).toArray 27)
  clear h
  unfold hv
  go_enter Tryd.func45, Tryd.ntmps45
  go_upto_region 3 with (fail)
  obtain ⟨gP, gQ, gK, b0⟩ := A3
  generalize World.alloc (World.alloc (World.alloc w _) _) _ = wz at *
  have BZ := hid b0
  have HOz := hid (HO.out.below b0)
  have hPz := hid gP
  have hQz := hid gQ
  have unH := Tryd.underlying27
  have hiL := hid (show (Tryd.prog.info? 27).map (·.size) = some (nums .u8 tk).length by rw [nums_length, htk.1]; kernel_rfl)
  have hiLs := hid (show (Tryd.prog.info? 27).map (·.size) = some (nums .u8 ow).length by rw [nums_length, hoo.1]; kernel_rfl)
  have hiLw := hid (show (Tryd.prog.info? 27).map (·.size) = some (nums .u8 what).length by rw [nums_length, hwo.1]; kernel_rfl)
  generalize hP : w.heap.size = P at *
  generalize hQ : P + 1 = Q at *
  generalize hK7 : Q + 1 = K7 at *
  obtain ⟨EV, kn, hval, hEV, hkn⟩ : ∃ (EV : Array Value) (kn : Bool), Hid ((if true = true then Value.tuple #[(valE M tk).getD (.agg zE), .bool (valE M tk).isSome] else (valE M tk).getD (.agg zE)) = .tuple #[.agg EV, .bool kn]) ∧ Hid (EV.size = 64 ∧ EV.all (·.oneCell') = true) ∧ Hid ((kn = false ∧ M tk = none) ∨ (kn = true ∧ ∃ e, M tk = some e ∧ EV = (nums .u8 (e.1 ++ e.2)).toArray ∧ EH.ok e.1 ∧ EH.ok e.2)) := by
    rw [if_pos rfl]
    unfold valE
    cases hm : M tk with
    | none => exact ⟨zE, false, hid rfl, hid ⟨rfl, all_oneCell_toArray (nums_oneCell .u8 _)⟩, hid (.inl ⟨rfl, rfl⟩)⟩
    | some e =>
      have := HOz.out.ok _ e hm
      exact ⟨(nums .u8 (e.1 ++ e.2)).toArray, true, hid rfl, hid ⟨by simp [this.1.1, this.2.1], all_oneCell_toArray (nums_oneCell .u8 _)⟩, hid (.inr ⟨rfl, e, rfl, rfl, this⟩)⟩
  have hEi := hid (show (Tryd.prog.info? 97).map (·.size) = some EV.size by rw [hEV.out.1]; kernel_rfl)
  have hEz := hid (fun (y : Array Value) (hy : y.size = 64) => hy.trans hEV.out.1.symm)
  have hEo := hid hEV.out.2
  have keepS : ∀ X Y : World, Below X.heap.size X Y → (X.cell? ⟨ob, 0, none⟩ = some (.map (some mb)) ∧ X.rangeAt K7 0 (nums .u8 tk) ∧ MapIs EH X mb (valE M) n) → (Y.cell? ⟨ob, 0, none⟩ = some (.map (some mb)) ∧ Y.rangeAt K7 0 (nums .u8 tk) ∧ MapIs EH Y mb (valE M) n) :=
    fun X Y hb h => ⟨cell_keep hb h.1, range_keep hb h.2.1, h.2.2.below hb⟩
  have f1 : wz.cell? ⟨ob, 0, none⟩ = some (.map (some mb)) := cellA HOz.out.st rfl
  have f2 := row_range gK
  have f3 := HOz.out.map
  clear b0 gK gP gQ
  refine wp_region_held_drew (S := fun w' => w'.cell? ⟨ob, 0, none⟩ = some (.map (some mb)) ∧ w'.rangeAt K7 0 (nums .u8 tk) ∧ MapIs EH w' mb (valE M) n) (by kernel_rfl) (⟨f1, f2, f3⟩) (fun hHeld => ?_)
  try simp only [List.size_toArray, List.length_cons, List.length_nil, Nat.reduceAdd, Array.replicate_succ, Array.replicate_zero, List.push_toArray, List.nil_append, List.cons_append]
  refine wpAnyH_take (i := 0) (oi := { dst := some 14, op := Op.move (Operand.tmp 0), type := 45, pos := "token.go:47", after := #[], guard := none }) (v := ?v8001) rfl (by kernel_rfl) (by kernel_rfl) (by kernel_rfl) (fun _ _ _ h => h) (Or.inl ⟨by rfl, ?hy8001⟩) hHeld ?_
  case hy8001 => (intro w hSw; (try dsimp only at hSw); go_simp; (try with_reducible rfl))
  (try simp only [Act.put, List.setIfInBounds_toArray, List.set_cons_zero, List.set_cons_succ])
  refine wpAnyH_take (i := 1) (oi := { dst := some 15, op := Op.nilCheck (Operand.tmp 14), type := 0, pos := "token.go:47", after := #[{ on := 0, ground := Ground.data }], guard := none }) (v := ?v8002) rfl (by kernel_rfl) (by kernel_rfl) (by kernel_rfl) (fun _ _ _ h => h) (Or.inl ⟨by rfl, ?hy8002⟩) hHeld ?_
  case hy8002 => (intro w hSw; (try dsimp only at hSw); go_simp; (try with_reducible rfl))
  (try simp only [Act.put, List.setIfInBounds_toArray, List.set_cons_zero, List.set_cons_succ])
  refine wpAnyH_take (i := 2) (oi := { dst := some 16, op := Op.fieldAddr 89 (Operand.tmp 15) 0, type := 0, pos := "token.go:47", after := #[{ on := 1, ground := Ground.data }], guard := none }) (v := ?v8003) rfl (by kernel_rfl) (by kernel_rfl) (by kernel_rfl) (fun _ _ _ h => h) (Or.inl ⟨by rfl, ?hy8003⟩) hHeld ?_
  case hy8003 => (intro w hSw; (try dsimp only at hSw); go_simp; (try with_reducible rfl))
  (try simp only [Act.put, List.setIfInBounds_toArray, List.set_cons_zero, List.set_cons_succ])
  refine wpAnyH_take (i := 3) (oi := { dst := some 17, op := Op.load 82 (Operand.tmp 16), type := 82, pos := "token.go:47", after := #[{ on := 2, ground := Ground.data }], guard := none }) (v := ?v8004) rfl (by kernel_rfl) (by kernel_rfl) (by kernel_rfl) (fun _ _ _ h => h) (Or.inl ⟨by rfl, ?hy8004⟩) hHeld ?_
  case hy8004 => (intro w hSw; (try dsimp only at hSw); go_simp; (try with_reducible rfl))
  (try simp only [Act.put, List.setIfInBounds_toArray, List.set_cons_zero, List.set_cons_succ])
  refine' wpAnyH_take (i := 4) (oi := { dst := some 18, op := Op.load 27 (Operand.tmp 7), type := 27, pos := "token.go:47", after := #[], guard := none }) (v := _) rfl (by kernel_rfl) (by kernel_rfl) (by kernel_rfl) (fun _ _ _ h => h) (yieldsIf_load_mid (by rfl) _ _ rfl K7 0 rfl (nums .u8 tk) _ (fun _ h => h.2.1) unH rfl hiL.out) hHeld ?_
  (try simp only [Act.put, List.setIfInBounds_toArray, List.set_cons_zero, List.set_cons_succ])
  refine wpAnyH_take (i := 5) (oi := { dst := some 19, op := Op.lookup 82 (Operand.tmp 17) (Operand.tmp 18) true, type := 98, pos := "token.go:47", after := #[{ on := 3, ground := Ground.data }, { on := 4, ground := Ground.data }], guard := none }) (v := .tuple #[.agg EV, .bool kn]) rfl (by kernel_rfl) (by kernel_rfl) (by kernel_rfl) (fun _ _ _ h => h) (Or.inl ⟨by rfl, fun w h => by rw [← hval.out]; exact run_look _ _ _ true rfl unE (zeroE w) h.2.2 rfl tk htk rfl⟩) hHeld ?_
  (try simp only [Act.put, List.setIfInBounds_toArray, List.set_cons_zero, List.set_cons_succ])
  refine wpAnyH_take (i := 6) (oi := { dst := some 13, op := Op.move (Operand.tmp 19), type := 98, pos := "token.go:47", after := #[{ on := 5, ground := Ground.data }], guard := none }) (v := ?v8005) rfl (by kernel_rfl) (by kernel_rfl) (by kernel_rfl) (fun _ _ _ h => h) (Or.inl ⟨by rfl, ?hy8005⟩) hHeld ?_
  case hy8005 => (intro w hSw; (try dsimp only at hSw); go_simp; (try with_reducible rfl))
  (try simp only [Act.put, List.setIfInBounds_toArray, List.set_cons_zero, List.set_cons_succ])
  refine wpAnyH_take (i := 7) (oi := { dst := some 20, op := Op.extract (Operand.tmp 13) 0, type := 97, pos := "token.go:47", after := #[{ on := 6, ground := Ground.data }], guard := none }) (v := ?v8006) rfl (by kernel_rfl) (by kernel_rfl) (by kernel_rfl) (fun _ _ _ h => h) (Or.inl ⟨by rfl, ?hy8006⟩) hHeld ?_
  case hy8006 => (intro w hSw; (try dsimp only at hSw); go_simp; (try with_reducible rfl))
  (try simp only [Act.put, List.setIfInBounds_toArray, List.set_cons_zero, List.set_cons_succ])
  refine wpAnyH_take (i := 8) (oi := { dst := some 21, op := Op.extract (Operand.tmp 13) 1, type := 4, pos := "token.go:47", after := #[{ on := 6, ground := Ground.data }, { on := 10, ground := Ground.gcOnly Departure.lateStores }], guard := none }) (v := ?v8007) rfl (by kernel_rfl) (by kernel_rfl) (by kernel_rfl) (fun _ _ _ h => h) (Or.inl ⟨by rfl, ?hy8007⟩) hHeld ?_
  case hy8007 => (intro w hSw; (try dsimp only at hSw); go_simp; (try with_reducible rfl))
  (try simp only [Act.put, List.setIfInBounds_toArray, List.set_cons_zero, List.set_cons_succ])
  refine wpAnyH_ready (rs := [9]) (by kernel_rfl) (by simp) ?_
  refine AllReadyH.cons (o := { dst := some 9, op := Op.alloc 97, type := 0, pos := "token.go:47", after := #[], guard := none }) rfl (fun K hK => ?_) ?_
  go_simp; (first | refine newZ ?_ | refine newZd ?_); intro w5 h5 b5
  refine hK.out _ _ (keepS _ _ b5.out ⟨f1, f2, f3⟩) (fun hHeld => ?_)
  clear hK K
  (try simp only [List.setIfInBounds_toArray, List.set_cons_zero, List.set_cons_succ])
  refine wpAnyH_ready (rs := [10]) (by kernel_rfl) (by simp) ?_
  refine AllReadyH.cons (o := { dst := none, op := Op.store 97 (Operand.tmp 9) (Operand.tmp 20), type := 0, pos := "token.go:47", after := #[{ on := 9, ground := Ground.data }, { on := 7, ground := Ground.data }, { on := 0, ground := Ground.phase }, { on := 1, ground := Ground.phase }, { on := 2, ground := Ground.phase }, { on := 3, ground := Ground.phase }, { on := 4, ground := Ground.phase }, { on := 5, ground := Ground.phase }, { on := 6, ground := Ground.phase }, { on := 7, ground := Ground.phase }, { on := 8, ground := Ground.textOnly Departure.lateStores }, { on := 9, ground := Ground.phase }], guard := none }) rfl (fun K hK => ?_) ?_
  rw [if_pos (by rfl)]; refine wp_store_row _ _ _ rfl _ EV rfl rfl _ _ h5.out hEi.out (hEz.out _ rfl) hEo.out ?_
  refine hK.out _ _ (keepS _ _ (below_setRow b5.out (Nat.le_refl _) _) ⟨f1, f2, f3⟩) (fun hHeld => ?_)
  clear hK K
  (try simp only [List.setIfInBounds_toArray, List.set_cons_zero, List.set_cons_succ])
  refine wpAnyH_take (i := 11) (oi := { dst := some 10, op := Op.assign (Operand.tmp 21), type := 4, pos := "token.go:47", after := #[{ on := 8, ground := Ground.data }, { on := 10, ground := Ground.chain }, { on := 0, ground := Ground.phase }, { on := 1, ground := Ground.phase }, { on := 2, ground := Ground.phase }, { on := 3, ground := Ground.phase }, { on := 4, ground := Ground.phase }, { on := 5, ground := Ground.phase }, { on := 6, ground := Ground.phase }, { on := 7, ground := Ground.phase }, { on := 8, ground := Ground.phase }, { on := 9, ground := Ground.phase }, { on := 10, ground := Ground.phase }], guard := none }) (v := ?v8008) rfl (by kernel_rfl) (by kernel_rfl) (by kernel_rfl) (fun _ _ _ h => h) (Or.inl ⟨by rfl, ?hy8008⟩) hHeld ?_
  case hy8008 => (intro w hSw; (try dsimp only at hSw); go_simp; (try with_reducible rfl))
  (try simp only [Act.put, List.setIfInBounds_toArray, List.set_cons_zero, List.set_cons_succ])
  refine wpAnyH_done (by kernel_rfl) ?_ _
  rotate_left
  exact AllReadyH.nil
  exact AllReadyH.nil
  have b7 := below_setRow b5.out (Nat.le_refl _) EV
  have hE7 := hid (setRow_heap _ _ _ _ _ _ h5.out : (w5.setRow wz.heap.size EV).heap[wz.heap.size]? = some (.cells EV 97 (0, 0)))
  have hP7 := hid (heap_keep hPz.out b7)
  have hQ7 := hid (heap_keep hQz.out b7)
  have B7 := hid (BZ.out.trans (b7.mono (by have := BZ.out.size; omega)))
  clear hHeld keepS f1 f2 f3 h5 b5 b7
  generalize w5.setRow wz.heap.size EV = w7 at *
  generalize wz.heap.size = KE at *
  have unE2 := Tryd.underlying97
  have HBT := hid (built_ent ow what hoo.1 hwo.1)
  rcases hkn.out with ⟨rfl, hm⟩ | ⟨rfl, e, hm, hev, he1, he2⟩
  · have hb : aldB M ow what tk = false := by unfold aldB; rw [hm]; rfl
    have HB := hid hb
    clear hb
    go_wp2
    go_ret
    exact ⟨by rw [HB.out]; rfl, hP ▸ B7.out⟩
  · subst hev
    have hiE := hid (show (Tryd.prog.info? 97).map (·.size) = some (nums .u8 (e.1 ++ e.2)).length by rw [nums_length, List.length_append, he1.1, he2.1]; kernel_rfl)
    have r1 := keyEnt.guarded (nums .u8 (e.1 ++ e.2)).toArray (nums .u8 (ow ++ what)).toArray
    have r2 := keyEnt.eql (kv_ent he1 he2) (kv_ent hoo hwo) (ent_inj (y := e.2) (b := what) he1 hoo)
    have hb : aldB M ow what tk = decide (e.1 = ow ∧ e.2 = what) := by
      unfold aldB
      rw [hm, decide_eq_decide]
      obtain ⟨e1, e2⟩ := e
      simp
    have HB := hid hb
    clear hb
    generalize decide (e.1 = ow ∧ e.2 = what) = B at *
    have rE := row_range hE7.out
    have rP := row_range hP7.out
    have rQ := row_range hQ7.out
    clear hm hkn hval hEi hEz hEo hEV
    go_wp2_with (first | refine wpList_load_midG rfl _ _ rfl KE 0 rfl (nums .u8 (e.1 ++ e.2)) _ rE unE2 rfl hiE.out ?_ | refine wpList_load_midG rfl _ _ rfl P 0 rfl (nums .u8 ow) _ rP unH rfl hiLs.out ?_ | refine wpList_load_midG rfl _ _ rfl Q 0 rfl (nums .u8 what) _ rQ unH rfl hiLw.out ?_ | refine wpList_build2G rfl _ _ _ rfl HBT.out rfl rfl ?_)
    go_ret
    exact ⟨by rw [HB.out]; rfl, hP ▸ B7.out⟩
def NewORes (w : World) (e : Ending) (w' : World) : Prop := ∃ ob mb, e = .returned (.pointer (some ⟨ob, 0, none⟩)) ∧ OffAt w' ob mb (fun _ => none) 0 ∧ w.heap.size ≤ ob ∧ w.heap.size ≤ mb ∧ Below w.heap.size w w'
set_option maxHeartbeats 1000000 in
theorem onew_walk (w : World) : Calls Tryd.prog 12 #[] w (NewORes w) := by
  have hmm := @run_makeMap Tryd.prog
  have m1 := MapIs.made (E := EH) w
  have A2 := alloc2p w (.map #[] 0) (.cells #[.map (some w.heap.size), .int .i64 0] 89)
  have hT : OffAt ((w.alloc (.map #[] 0)).alloc (.cells #[.map (some w.heap.size), .int .i64 0] 89)) (w.heap.size + 1) w.heap.size (fun _ => none) 0 :=
    ⟨A2.2.1, m1.below ((Below.refl _ _).alloc (Nat.le_refl _) _), fun _ _ h => (by cases h), by decide, by omega⟩
  have F := hid (show NewORes w (.returned (.pointer (some ⟨w.heap.size + 1, 0, none⟩))) _ from ⟨_, _, rfl, hT, by omega, Nat.le_refl _, A2.2.2.2⟩)
  clear hT A2 m1
  go_enter Tryd.func12, Tryd.ntmps12
  go_wp2
  go_ret
  exact F.out
end Go.Proofs.YtdopbhahcpjjgaaDoor

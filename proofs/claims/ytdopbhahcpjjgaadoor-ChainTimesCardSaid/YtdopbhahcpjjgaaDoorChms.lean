/- The chain's memory: points as keys, the chain's struct, its maps; New, Height. -/
import Derived.Test.YtdopbhahcpjjgaaDoorChcx
import Derived.Test.YtdopbhahcpjjgaaDoorMap
import Derived.Test.YtdopbhahcpjjgaaDoorChi
namespace Go.Proofs.YtdopbhahcpjjgaaDoor
open Go.RowKit

/-- points as keys -/
def EP : KeyE 31 (List Nat × Int) where
  enc := fun p => .agg (ptI p.1 p.2).toArray
  ok := fun p => H32b p.1 ∧ i64ok p.2
  kv := fun _ h => kv_point h.1 h.2
  inj := fun x y hx hy e => by
    have := (point_inj hx.1 hy.1).1 e
    exact Prod.ext this.1 this.2
  law := keyPoint.law
  kinj := keyPoint.inj
def chL (ob : Nat) (ht : Int) (hm dm wm sm : Nat) (pool : Value) (gf : Int) : List Value :=
  [.pointer (some ⟨ob, 0, none⟩), .int .i64 ht, .map (some hm), .map (some dm), .map (some wm), .map (some sm), pool, .int .i64 gf]
/-- block cb is a chain -/
structure ChAt (w : World) (cb ob : Nat) (ht : Int) (hm dm wm sm : Nat) (pool : Value) (gf : Int) : Prop where
  cell : w.heap[cb]? = some (.cells (chL ob ht hm dm wm sm pool gf).toArray 81 (0, 0))
section
variable {w w' : World} {cb ob hm dm wm sm : Nat} {ht gf : Int} {pool : Value}
theorem ChAt.c0 (h : ChAt w cb ob ht hm dm wm sm pool gf) : w.cell? ⟨cb, 0, none⟩ = some (.pointer (some ⟨ob, 0, none⟩)) := gen_cell (j := 0) (row_range h.cell) rfl
theorem ChAt.c1 (h : ChAt w cb ob ht hm dm wm sm pool gf) : w.cell? ⟨cb, 1, none⟩ = some (.int .i64 ht) := gen_cell (j := 1) (row_range h.cell) rfl
theorem ChAt.c2 (h : ChAt w cb ob ht hm dm wm sm pool gf) : w.cell? ⟨cb, 2, none⟩ = some (.map (some hm)) := gen_cell (j := 2) (row_range h.cell) rfl
theorem ChAt.c3 (h : ChAt w cb ob ht hm dm wm sm pool gf) : w.cell? ⟨cb, 3, none⟩ = some (.map (some dm)) := gen_cell (j := 3) (row_range h.cell) rfl
theorem ChAt.c4 (h : ChAt w cb ob ht hm dm wm sm pool gf) : w.cell? ⟨cb, 4, none⟩ = some (.map (some wm)) := gen_cell (j := 4) (row_range h.cell) rfl
theorem ChAt.c5 (h : ChAt w cb ob ht hm dm wm sm pool gf) : w.cell? ⟨cb, 5, none⟩ = some (.map (some sm)) := gen_cell (j := 5) (row_range h.cell) rfl
theorem ChAt.c6 (h : ChAt w cb ob ht hm dm wm sm pool gf) : w.cell? ⟨cb, 6, none⟩ = some pool := gen_cell (j := 6) (row_range h.cell) rfl
theorem ChAt.c7 (h : ChAt w cb ob ht hm dm wm sm pool gf) : w.cell? ⟨cb, 7, none⟩ = some (.int .i64 gf) := gen_cell (j := 7) (row_range h.cell) rfl
theorem ChAt.fz (h : ChAt w cb ob ht hm dm wm sm pool gf) (k : Nat) : w.frozen? ⟨cb, k, none⟩ = false := frozen_of_row _ _ _ _ _ h.cell
theorem ChAt.lt (h : ChAt w cb ob ht hm dm wm sm pool gf) : cb < w.heap.size := (Array.getElem?_eq_some_iff.1 h.cell).1
theorem ChAt.keep {S : Nat → Prop} (h : ChAt w cb ob ht hm dm wm sm pool gf) (k : Keep S w w') (hn : ¬ S cb) : ChAt w' cb ob ht hm dm wm sm pool gf := ⟨k.heap h.cell hn⟩
theorem ChAt.below (h : ChAt w cb ob ht hm dm wm sm pool gf) (b : Below w.heap.size w w') : ChAt w' cb ob ht hm dm wm sm pool gf := ⟨heap_keep h.cell b⟩
theorem cheight_walk (h : ChAt w cb ob ht hm dm wm sm pool gf) : Calls Tryd.prog 21 #[.pointer (some ⟨cb, 0, none⟩)] w fun e w' => e = .returned (.int .i64 ht) ∧ w = w' := by
  have c1 := h.c1
  clear h
  go_enter Tryd.func21, Tryd.ntmps21
  go_wp2
  go_ret
  exact ⟨rfl, rfl⟩
end
/-- a chain of one's own, empty -/
def NewCRes (w : World) (ob : Nat) (e : Ending) (w' : World) : Prop :=
  ∃ cb hm dm wm sm, e = .returned (.pointer (some ⟨cb, 0, none⟩)) ∧ ChAt w' cb ob 0 hm dm wm sm (.slice none 0 0) 0 ∧ MapIs EP w' hm (fun _ => none) 0 ∧ MapIs EH w' dm (fun _ => none) 0 ∧ MapIs EH w' wm (fun _ => none) 0 ∧ MapIs EP w' sm (fun _ => none) 0 ∧
    (w.heap.size ≤ hm ∧ hm < dm ∧ dm < wm ∧ wm < sm ∧ sm < cb) ∧ Below w.heap.size w w'
set_option maxRecDepth 100000 in
set_option maxHeartbeats 4000000 in
theorem cnew_walk (ob : Nat) (w : World) : Calls Tryd.prog 11 #[.pointer (some ⟨ob, 0, none⟩)] w (NewCRes w ob) := by
  have hmm := @run_makeMap Tryd.prog
  obtain ⟨w1, hw1⟩ : ∃ w1, w1 = w.alloc (.map #[] 0) := ⟨_, rfl⟩
  obtain ⟨w2, hw2⟩ : ∃ w2, w2 = w1.alloc (.map #[] 0) := ⟨_, rfl⟩
  obtain ⟨w3, hw3⟩ : ∃ w3, w3 = w2.alloc (.map #[] 0) := ⟨_, rfl⟩
  obtain ⟨w4, hw4⟩ : ∃ w4, w4 = w3.alloc (.map #[] 0) := ⟨_, rfl⟩
  obtain ⟨w5, hw5⟩ : ∃ w5, w5 = w4.alloc (.cells (chL ob 0 w.heap.size w1.heap.size w2.heap.size w3.heap.size (.slice none 0 0) 0).toArray 81) := ⟨_, rfl⟩
  have b1 : Below w.heap.size w w1 := by rw [hw1]; exact (Below.refl _ _).alloc (Nat.le_refl _) _
  have b2 : Below w1.heap.size w1 w2 := by rw [hw2]; exact (Below.refl _ _).alloc (Nat.le_refl _) _
  have b3 : Below w2.heap.size w2 w3 := by rw [hw3]; exact (Below.refl _ _).alloc (Nat.le_refl _) _
  have b4 : Below w3.heap.size w3 w4 := by rw [hw4]; exact (Below.refl _ _).alloc (Nat.le_refl _) _
  have b5 : Below w4.heap.size w4 w5 := by rw [hw5]; exact (Below.refl _ _).alloc (Nat.le_refl _) _
  have m1 : MapIs EP w1 w.heap.size (fun _ => none) 0 := by rw [hw1]; exact MapIs.made w
  have m2 : MapIs EH w2 w1.heap.size (fun _ => none) 0 := by rw [hw2]; exact MapIs.made w1
  have m3 : MapIs EH w3 w2.heap.size (fun _ => none) 0 := by rw [hw3]; exact MapIs.made w2
  have m4 : MapIs EP w4 w3.heap.size (fun _ => none) 0 := by rw [hw4]; exact MapIs.made w3
  have hc : ChAt w5 w4.heap.size ob 0 w.heap.size w1.heap.size w2.heap.size w3.heap.size (.slice none 0 0) 0 := ⟨by rw [hw5]; exact heap_alloc_new _ _⟩
  have F := hid (show NewCRes w ob (.returned (.pointer (some ⟨w4.heap.size, 0, none⟩))) w5 from
    ⟨_, _, _, _, _, rfl, hc, (((m1.below b2).below b3).below b4).below b5, ((m2.below b3).below b4).below b5, (m3.below b4).below b5, m4.below b5, ⟨Nat.le_refl _, m1.lt, m2.lt, m3.lt, m4.lt⟩,
      (((b1.trans (b2.mono b1.size)).trans (b3.mono (Nat.le_trans b1.size b2.size))).trans (b4.mono (Nat.le_trans (Nat.le_trans b1.size b2.size) b3.size))).trans (b5.mono (Nat.le_trans (Nat.le_trans (Nat.le_trans b1.size b2.size) b3.size) b4.size))⟩)
  clear b1 b2 b3 b4 b5 m1 m2 m3 m4 hc
  subst hw5 hw4 hw3 hw2 hw1
  go_enter Tryd.func11, Tryd.ntmps11
  go_wp2
  go_ret
  simpa [chL] using F.out
end Go.Proofs.YtdopbhahcpjjgaaDoor

/- The chain's Spent. -/
namespace Go.Proofs.YtdopbhahcpjjgaaDoor
open Go.RowKit

/-- hashes as values of a map -/
def hashM (SM : List Nat × Int → Option (List Nat)) : List Nat × Int → Option Value := fun p => (SM p).map (fun x => .agg (nums .u8 x).toArray)
def SpRes (w : World) (x : Option (List Nat)) (e : Ending) (w' : World) : Prop := e = .returned (.tuple #[.agg (nums .u8 (x.getD zh)).toArray, .bool x.isSome]) ∧ Below w.heap.size w w'
set_option maxRecDepth 100000 in
set_option maxHeartbeats 4000000 in
theorem cspent_walk {w : World} {cb ob hm dm wm sm n : Nat} {ht gf : Int} {pool : Value} (h : ChAt w cb ob ht hm dm wm sm pool gf) (SM : List Nat × Int → Option (List Nat)) (hM : MapIs EP w sm (hashM SM) n) (hk : ∀ p x, SM p = some x → H32b x) (tx : List Nat) (o : Int) (hx : H32b tx) (ho : i64ok o) :
    Calls Tryd.prog 17 #[.pointer (some ⟨cb, 0, none⟩), .agg (ptI tx o).toArray] w (SpRes w (SM (tx, o))) := by
  have H := hid h
  have M := hid hM
  have OK := hid (show EP.ok (tx, o) from ⟨hx, ho⟩)
  obtain ⟨zz, hzz⟩ : ∃ zz : List Nat, zz = zh := ⟨_, rfl⟩
  have ZH : ∀ w : World, (zeroValue 27).run Tryd.prog w = .ok (.agg (nums .u8 zz).toArray) w := by rw [hzz]; exact zv_of (by kernel_rfl)
  have lz := hid (show zz.length = 32 by rw [hzz]; rfl)
  obtain ⟨lp, hlp⟩ : ∃ lp, lp = ptI tx o := ⟨_, rfl⟩
  have hiP := hid (show (Tryd.prog.info? 31).map (·.size) = some lp.length from by rw [hlp, show (ptI tx o).length = 33 by simp [ptI, hx.1]]; kernel_rfl)
  obtain ⟨rv, hrv⟩ : ∃ rv, rv = (SM (tx, o)).getD zh := ⟨_, rfl⟩
  obtain ⟨kn, hkn⟩ : ∃ kn, kn = (SM (tx, o)).isSome := ⟨_, rfl⟩
  have RL := hid (show rv.length = 32 from by
    rw [hrv]
    cases hs : SM (tx, o) with
    | none => rfl
    | some x => exact (hk _ x hs).1)
  have HV := hid (show (if true = true then Value.tuple #[(hashM SM (tx, o)).getD (.agg (nums .u8 zz).toArray), .bool (hashM SM (tx, o)).isSome] else (hashM SM (tx, o)).getD (.agg (nums .u8 zz).toArray)) = .tuple #[.agg (nums .u8 rv).toArray, .bool kn] from by
    rw [hrv, hkn, hzz]
    unfold hashM
    cases SM (tx, o) <;> rfl)
  have LPe := hid (show Value.agg lp.toArray = EP.enc (tx, o) from by rw [hlp]; rfl)
  have FIN := hid (And.intro hrv hkn)
  have A2 := alloc2p w (.cells lp.toArray 31) (.cells (nums .u8 zz).toArray 27)
  have HA := hid A2.1
  have HR := hid A2.2.1
  have B1 := hid A2.2.2.2
  have hi6 := hid (show (Tryd.prog.info? 27).map (·.size) = some (nums .u8 rv).toArray.size by rw [List.size_toArray, nums_length, RL.out]; kernel_rfl)
  have hiL := hid (show (Tryd.prog.info? 27).map (·.size) = some (nums .u8 rv).length by rw [nums_length, RL.out]; kernel_rfl)
  have ho6 := hid (show (nums .u8 zz).toArray.size = (nums .u8 rv).toArray.size by rw [List.size_toArray, List.size_toArray, nums_length, nums_length, lz.out, RL.out])
  have h16 := hid (all_oneCell_toArray (nums_oneCell .u8 rv))
  rw [← hlp]
  clear h hM hk hx ho hzz hlp hrv hkn A2
  go_enter Tryd.func17, Tryd.ntmps17
  go_upto_region 3 with (fail)
  generalize (w.alloc (.cells lp.toArray 31)).alloc (.cells (nums .u8 zz).toArray 27) = w1 at *
  have c5 := hid (H.out.below B1.out).c5
  have M1 := hid (M.out.below B1.out)
  have rP := hid (row_range HA.out)
  have W1 := hid (show w.heap.size + 1 < w1.heap.size from (Array.getElem?_eq_some_iff.1 HR.out).1)
  refine wp_region_held_drew (S := fun w' => Below w1.heap.size w1 w') (by kernel_rfl) ((Below.refl _ _).drew) (fun hHeld => ?_)
  try simp only [List.size_toArray, List.length_cons, List.length_nil, Nat.reduceAdd, Array.replicate_succ, Array.replicate_zero, List.push_toArray, List.nil_append, List.cons_append]
  refine wpAnyH_take (i := 0) (oi := { dst := some 12, op := Op.move (Operand.tmp 0), type := 43, pos := "chain.go:380", after := #[], guard := none }) (v := ?v1001) rfl (by kernel_rfl) (by kernel_rfl) (by kernel_rfl) (fun _ _ _ h => h) (Or.inl ⟨by rfl, ?hy1001⟩) hHeld ?_
  case hy1001 => (intro w hSw; (try dsimp only at hSw); go_simp; (try with_reducible rfl))
  (try simp only [Act.put, List.setIfInBounds_toArray, List.set_cons_zero, List.set_cons_succ])
  refine wpAnyH_take (i := 1) (oi := { dst := some 13, op := Op.nilCheck (Operand.tmp 12), type := 0, pos := "chain.go:380", after := #[{ on := 0, ground := Ground.data }], guard := none }) (v := ?v1002) rfl (by kernel_rfl) (by kernel_rfl) (by kernel_rfl) (fun _ _ _ h => h) (Or.inl ⟨by rfl, ?hy1002⟩) hHeld ?_
  case hy1002 => (intro w hSw; (try dsimp only at hSw); go_simp; (try with_reducible rfl))
  (try simp only [Act.put, List.setIfInBounds_toArray, List.set_cons_zero, List.set_cons_succ])
  refine wpAnyH_take (i := 2) (oi := { dst := some 14, op := Op.fieldAddr 81 (Operand.tmp 13) 5, type := 0, pos := "chain.go:380", after := #[{ on := 1, ground := Ground.data }], guard := none }) (v := ?v1003) rfl (by kernel_rfl) (by kernel_rfl) (by kernel_rfl) (fun _ _ _ h => h) (Or.inl ⟨by rfl, ?hy1003⟩) hHeld ?_
  case hy1003 => (intro w hSw; (try dsimp only at hSw); go_simp; (try with_reducible rfl))
  (try simp only [Act.put, List.setIfInBounds_toArray, List.set_cons_zero, List.set_cons_succ])
  refine wpAnyH_take (i := 3) (oi := { dst := some 15, op := Op.load 78 (Operand.tmp 14), type := 78, pos := "chain.go:380", after := #[{ on := 2, ground := Ground.data }], guard := none }) (v := (.map (some sm))) rfl (by kernel_rfl) (by kernel_rfl) (by kernel_rfl) (fun _ _ _ h => h) (Or.inl ⟨by rfl, fun w h => by have c9 := cell_keep h c5.out; go_simp⟩) hHeld ?_
  (try simp only [Act.put, List.setIfInBounds_toArray, List.set_cons_zero, List.set_cons_succ])
  refine' wpAnyH_take (i := 4) (oi := { dst := some 16, op := Op.load 31 (Operand.tmp 3), type := 31, pos := "chain.go:380", after := #[], guard := none }) (v := _) rfl (by kernel_rfl) (by kernel_rfl) (by kernel_rfl) (fun _ _ _ h => h) (yieldsIf_load_mid (by rfl) _ _ rfl w.heap.size 0 rfl lp _ (fun _ h => range_keep h rP.out) Tryd.underlying31 rfl hiP.out) hHeld ?_
  (try simp only [Act.put, List.setIfInBounds_toArray, List.set_cons_zero, List.set_cons_succ])
  refine wpAnyH_take (i := 5) (oi := { dst := some 17, op := Op.lookup 78 (Operand.tmp 15) (Operand.tmp 16) true, type := 56, pos := "chain.go:380", after := #[{ on := 3, ground := Ground.data }, { on := 4, ground := Ground.data }], guard := none }) (v := (.tuple #[.agg (nums .u8 rv).toArray, .bool kn])) rfl (by kernel_rfl) (by kernel_rfl) (by kernel_rfl) (fun _ _ _ h => h) (Or.inl ⟨by rfl, fun w h => by rw [← HV.out]; exact run_look (.tmp 15) (.tmp 16) _ true rfl Tryd.underlying78 (ZH w) (M1.out.below h) rfl (tx, o) OK.out LPe.out⟩) hHeld ?_
  (try simp only [Act.put, List.setIfInBounds_toArray, List.set_cons_zero, List.set_cons_succ])
  refine wpAnyH_take (i := 6) (oi := { dst := some 11, op := Op.move (Operand.tmp 17), type := 56, pos := "chain.go:380", after := #[{ on := 5, ground := Ground.data }], guard := none }) (v := ?v1004) rfl (by kernel_rfl) (by kernel_rfl) (by kernel_rfl) (fun _ _ _ h => h) (Or.inl ⟨by rfl, ?hy1004⟩) hHeld ?_
  case hy1004 => (intro w hSw; (try dsimp only at hSw); go_simp; (try with_reducible rfl))
  (try simp only [Act.put, List.setIfInBounds_toArray, List.set_cons_zero, List.set_cons_succ])
  refine wpAnyH_take (i := 7) (oi := { dst := some 18, op := Op.extract (Operand.tmp 11) 0, type := 27, pos := "chain.go:380", after := #[{ on := 6, ground := Ground.data }], guard := none }) (v := ?v1005) rfl (by kernel_rfl) (by kernel_rfl) (by kernel_rfl) (fun _ _ _ h => h) (Or.inl ⟨by rfl, ?hy1005⟩) hHeld ?_
  case hy1005 => (intro w hSw; (try dsimp only at hSw); go_simp; (try with_reducible rfl))
  (try simp only [Act.put, List.setIfInBounds_toArray, List.set_cons_zero, List.set_cons_succ])
  refine wpAnyH_take (i := 8) (oi := { dst := some 19, op := Op.extract (Operand.tmp 11) 1, type := 4, pos := "chain.go:380", after := #[{ on := 6, ground := Ground.data }, { on := 10, ground := Ground.gcOnly Departure.lateStores }], guard := none }) (v := ?v1006) rfl (by kernel_rfl) (by kernel_rfl) (by kernel_rfl) (fun _ _ _ h => h) (Or.inl ⟨by rfl, ?hy1006⟩) hHeld ?_
  case hy1006 => (intro w hSw; (try dsimp only at hSw); go_simp; (try with_reducible rfl))
  (try simp only [Act.put, List.setIfInBounds_toArray, List.set_cons_zero, List.set_cons_succ])
  refine wpAnyH_ready (rs := [9]) (by kernel_rfl) (by simp) ?_
  refine AllReadyH.cons (o := { dst := some 6, op := Op.alloc 27, type := 0, pos := "chain.go:380", after := #[], guard := none }) rfl (fun K hK => ?_) ?_
  have BVL := hid hHeld.size; go_simp; (first | refine newZ ?_ | refine newZd ?_); intro wa HW BW
  refine hK.out _ _ (by first | exact hHeld.trans (BW.out.mono hHeld.size) | exact BW.out) (fun hHeld => ?_)
  clear hK K
  (try simp only [List.setIfInBounds_toArray, List.set_cons_zero, List.set_cons_succ])
  refine wpAnyH_ready (rs := [10]) (by kernel_rfl) (by simp) ?_
  refine AllReadyH.cons (o := { dst := none, op := Op.store 27 (Operand.tmp 6) (Operand.tmp 18), type := 0, pos := "chain.go:380", after := #[{ on := 9, ground := Ground.data }, { on := 7, ground := Ground.data }, { on := 0, ground := Ground.phase }, { on := 1, ground := Ground.phase }, { on := 2, ground := Ground.phase }, { on := 3, ground := Ground.phase }, { on := 4, ground := Ground.phase }, { on := 5, ground := Ground.phase }, { on := 6, ground := Ground.phase }, { on := 7, ground := Ground.phase }, { on := 8, ground := Ground.textOnly Departure.lateStores }, { on := 9, ground := Ground.phase }], guard := none }) rfl (fun K hK => ?_) ?_
  rw [if_pos (by rfl)]; refine wp_store_row _ _ _ rfl _ (nums .u8 rv).toArray rfl rfl _ _ HW.out hi6.out ho6.out h16.out ?_
  refine hK.out _ _ (below_setRow hHeld BVL.out _) (fun hHeld => ?_)
  clear hK K
  (try simp only [List.setIfInBounds_toArray, List.set_cons_zero, List.set_cons_succ])
  refine wpAnyH_take (i := 11) (oi := { dst := some 7, op := Op.assign (Operand.tmp 19), type := 4, pos := "chain.go:380", after := #[{ on := 8, ground := Ground.data }, { on := 10, ground := Ground.chain }, { on := 0, ground := Ground.phase }, { on := 1, ground := Ground.phase }, { on := 2, ground := Ground.phase }, { on := 3, ground := Ground.phase }, { on := 4, ground := Ground.phase }, { on := 5, ground := Ground.phase }, { on := 6, ground := Ground.phase }, { on := 7, ground := Ground.phase }, { on := 8, ground := Ground.phase }, { on := 9, ground := Ground.phase }, { on := 10, ground := Ground.phase }], guard := none }) (v := ?v1007) rfl (by kernel_rfl) (by kernel_rfl) (by kernel_rfl) (fun _ _ _ h => h) (Or.inl ⟨by rfl, ?hy1007⟩) hHeld ?_
  case hy1007 => (intro w hSw; (try dsimp only at hSw); go_simp; (try with_reducible rfl))
  (try simp only [Act.put, List.setIfInBounds_toArray, List.set_cons_zero, List.set_cons_succ])
  refine wpAnyH_done (by kernel_rfl) ?_ _
  rotate_left
  exact AllReadyH.nil
  exact AllReadyH.nil
  have BE := hid hHeld
  have hr4 := heap_keep HR.out hHeld
  clear hHeld
  have rvr := row_range (setRow_heap _ _ _ (nums .u8 rv).toArray _ _ HW.out)
  go_wp2_with (first | with_reducible refine wpList_load_mid rfl _ _ rfl _ 0 rfl (nums .u8 rv) _ rvr Tryd.underlying27 rfl hiL.out ?_ | refine wpList_store_row rfl _ _ _ rfl (w.heap.size + 1) (nums .u8 rv).toArray rfl rfl _ _ hr4 hi6.out ho6.out h16.out ?_)
  refine bodyPost_ret (results_cell_tmp rfl _ _ (w.heap.size + 1) _ (nums .u8 rv).toArray _ _ _ rfl rfl (setRow_heap _ _ _ _ _ _ hr4) Tryd.underlying27 rfl hi6.out) rfl ?_
  exact ⟨by rw [FIN.out.1, FIN.out.2]; rfl, below_setRow (B1.out.trans (BE.out.mono B1.out.size)) (by omega) _⟩
end Go.Proofs.YtdopbhahcpjjgaaDoor

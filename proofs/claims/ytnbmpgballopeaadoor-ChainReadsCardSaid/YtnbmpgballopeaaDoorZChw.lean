/- The law's bigTx and small. -/
import Derived.Test.YtnbmpgballopeaaDoorZKeep
import Derived.Test.YtnbmpgballopeaaDoorZChc
import Derived.Test.YtnbmpgballopeaaDoorZTokO
import Derived.Test.YtnbmpgballopeaaDoorZTok
namespace Go.Proofs.YtnbmpgballopeaaDoor
open Go.RowKit
theorem OutD.c1 (o : OutD) : o.cells[1]? = some (.slice o.pa o.paths.length o.pc) := rfl
end Go.Proofs.YtnbmpgballopeaaDoor
/- The chain's copied: an output with paths of its own. -/
namespace Go.Proofs.YtnbmpgballopeaaDoor
open Go.RowKit
theorem zv_out {t : TypeId} {Z : Array Value} (h : (Tryd.prog.info? t).map (·.zero) = some (some (.agg Z))) (w : World) : (zeroValue t).run Tryd.prog w = .ok (.agg Z) w := by
 cases hi : Tryd.prog.info? t with
 | none => rw [hi] at h; cases h
 | some i =>
  rw [hi] at h
  simp only [Option.map_some, Option.some.injEq] at h
  simp [zeroValue, typeInfo, hi, h]
def OutD.at' (o : OutD) (a : Option Addr) (c : Nat) : OutD := ⟨o.coins, a, c, o.paths, o.anchor⟩
theorem OutD.at_cells (o : OutD) (a : Option Addr) (c : Nat) : o.cells.set 1 (.slice a o.paths.length c) = (o.at' a c).cells := rfl
theorem paths_one (o : OutD) : ∀ u ∈ o.paths.flatMap PathD.cells, u.oneCell' = true := fun u hu => by
 obtain ⟨p, _, hp⟩ := List.mem_flatMap.1 hu
 exact PathD.one p u hp
def CopC (w : World) (o : OutD) (e : Ending) (w' : World) : Prop := ∃ a c, e = .returned (.agg (o.at' a c).cells.toArray) ∧ (o.at' a c).good w' ∧ w'.ownsRow w.heap.size 83 98 (.slice a o.paths.length c) o.paths.length (o.paths.flatMap PathD.cells) ∧ Below w.heap.size w w'
set_option maxRecDepth 100000 in
set_option maxHeartbeats 4000000 in
theorem ccopied_walk (o : OutD) (w : World) (h : o.good w) (hn : o.paths.length ≤ 4096) : Calls Tryd.prog 41 #[.agg o.cells.toArray] w (CopC w o) := by
 have G := hid h
 have HN := hid hn
 obtain ⟨oc, hoc⟩ : ∃ oc, oc = o.cells := ⟨_, rfl⟩
 have HOC := hid hoc
 have OL := hid (show oc.length = 34 by rw [hoc]; exact OutD.len h)
 obtain ⟨zo, hzo⟩ : ∃ zo : Array Value, zo = zOut := ⟨_, rfl⟩
 have ZH : ∀ w : World, (zeroValue 57).run Tryd.prog w = .ok (.agg zo) w := by rw [hzo]; exact zv_out (by kernel_rfl)
 have zl := hid (show zo.size = 34 by rw [hzo]; rfl)
 have A2 := alloc2p w (.cells oc.toArray 57) (.cells zo 57)
 have HA := hid A2.1
 have HR := hid A2.2.1
 have B1 := hid A2.2.2.2
 obtain ⟨N, hN⟩ : ∃ N, N = o.paths.length := ⟨_, rfl⟩
 obtain ⟨pa, hpa⟩ : ∃ pa, pa = o.pa := ⟨_, rfl⟩
 obtain ⟨pc, hpc⟩ : ∃ pc, pc = o.pc := ⟨_, rfl⟩
 have NN := hid hN
 have PP := hid (show Rd w 98 pa N pc (o.paths.flatMap PathD.cells) by rw [hpa, hpc, hN]; exact h.paths)
 have c1 := gen_cell (j := 1) (row_range A2.1) (v := .slice pa N pc) (by rw [hoc, hpa, hpc, hN]; rfl)
 rw [← hoc]
 clear h hn hzo A2 hoc hN hpa hpc
 go_enter Tryd.func41, Tryd.ntmps41
 go_upto_region 1 with (fail)
 generalize (w.alloc (.cells oc.toArray 57)).alloc (.cells zo 57) = w1 at *
 go_wp2_with (fail)
 refine (cloPath_walk pa N pc _ w1 (PP.out.below B1.out) (paths_one o) (by rw [NN.out]; exact HN.out)).mono ?_
 rintro e w2 ⟨a2, k2, rfl, o2, b2⟩
 have O2 := hid o2
 have B2 := hid (show Below w.heap.size w w2 from B1.out.trans (b2.mono B1.out.size))
 have HA2 := hid (heap_keep HA.out b2)
 have HR2 := hid (heap_keep HR.out b2)
 have c1b := cell_keep b2 c1
 have z1 : w2.frozen? ⟨w.heap.size, 1, none⟩ = false := frozen_of_row _ _ _ _ _ HA2.out
 have W1 := hid (show w.heap.size + 1 < w1.heap.size from (Array.getElem?_eq_some_iff.1 HR.out).1)
 obtain ⟨nc, hnc⟩ : ∃ nc, nc = (o.at' a2 k2).cells := ⟨_, rfl⟩
 have hS : (w2.setCell ⟨w.heap.size, 1, none⟩ (.slice a2 N k2)).heap[w.heap.size]? = some (.cells nc.toArray 57 (0, 0)) := by
  rw [heap_set _ HA2.out, hnc, ← OutD.at_cells, HOC.out, NN.out]
 have rS := row_range hS
 have NL := hid (show nc.length = 34 by rw [hnc]; have := OutD.len (G.out); exact this)
 have hiC := hid (show (Tryd.prog.info? 57).map (·.size) = some nc.length by rw [NL.out]; kernel_rfl)
 have hiCa := hid (show (Tryd.prog.info? 57).map (·.size) = some nc.toArray.size by rw [List.size_toArray, NL.out]; kernel_rfl)
 have hoC := hid (show zo.size = nc.toArray.size by rw [zl.out, List.size_toArray, NL.out])
 have h16 := hid (show (nc.toArray.all fun x => x.oneCell') = true by rw [hnc]; exact all_oneCell_toArray (OutD.one _))
 have FS := hid (show Far w.heap.size w2 (w2.setCell ⟨w.heap.size, 1, none⟩ (.slice a2 N k2)) from Far.set _)
 have hR3 := heap_far HR2.out FS.out (by omega)
 have HNC := hid hnc
 clear o2 b2 c1 hnc
 go_wp2_with (first | with_reducible refine wpList_load_mid rfl _ _ rfl w.heap.size 0 rfl nc _ rS Tryd.underlying57 rfl hiC.out ?_ | refine wpList_store_row rfl _ _ _ rfl (w.heap.size + 1) nc.toArray rfl rfl _ _ hR3 hiCa.out hoC.out h16.out ?_)
 refine bodyPost_ret (results_cellH rfl _ _ (w.heap.size + 1) _ nc.toArray _ _ rfl (setRow_heap _ _ _ _ _ _ hR3) Tryd.underlying57 rfl hiCa.out) rfl ?_
 obtain rfl : N = o.paths.length := NN.out
 have KF := ((Keep.far' FS.out).mono (fun i h => Or.inl h) (R := fun i => i = w.heap.size ∨ i = w.heap.size + 1)).trans ((Keep.far' (far_row (w2.setCell ⟨w.heap.size, 1, none⟩ (.slice a2 o.paths.length k2)) (w.heap.size + 1) nc.toArray)).mono (fun i h => Or.inr h))
 have w1l := W1.out
 have o2 := KF.own O2.out (fun g hg e => by
  have := (O2.out.lt _ hg).1
  omega)
 have o3 := own_mono o2 B1.out.size
 obtain ⟨a', c', e', hr⟩ := Rd.of_owns o3
 simp only [Value.slice.injEq] at e'
 obtain ⟨rfl, _, rfl⟩ := e'
 refine ⟨a2, k2, by rw [HNC.out], ⟨G.out.coins, G.out.anchor, hr, G.out.ok⟩, o3, B2.out.trans (KF.below (fun i e => by omega) B2.out.size)⟩
end Go.Proofs.YtnbmpgballopeaaDoor
/- The chain's memory: points as keys, the chain's struct, its maps; New, Height. -/
namespace Go.Proofs.YtnbmpgballopeaaDoor
open Go.RowKit
def EP : KeyE 51 (List Nat × Int) where
 enc := fun p => .agg (ptI p.1 p.2).toArray
 ok := fun p => H32b p.1 ∧ i64ok p.2
 kv := fun _ h => kv_point h.1 h.2
 inj := fun x y hx hy e => by
  have := (point_inj hx.1 hy.1).1 e
  exact Prod.ext this.1 this.2
 law := keyPoint.law
 kinj := keyPoint.inj
def chL (ob : Nat) (ht : Int) (hm dm wm sm : Nat) (pool : Value) (gf : Int) : List Value :=
 [.pointer (some ⟨ob, 0, none⟩), .int .i64 ht, .map (some hm), .map (some dm), .map (some wm), .map (some sm), pool, .int .i64 gf]
structure ChAt (w : World) (cb ob : Nat) (ht : Int) (hm dm wm sm : Nat) (pool : Value) (gf : Int) : Prop where
 cell : w.heap[cb]? = some (.cells (chL ob ht hm dm wm sm pool gf).toArray 122 (0, 0))
section
variable {w w' : World} {cb ob hm dm wm sm : Nat} {ht gf : Int} {pool : Value}
theorem ChAt.c0 (h : ChAt w cb ob ht hm dm wm sm pool gf) : w.cell? ⟨cb, 0, none⟩ = some (.pointer (some ⟨ob, 0, none⟩)) := gen_cell (j := 0) (row_range h.cell) rfl
theorem ChAt.c1 (h : ChAt w cb ob ht hm dm wm sm pool gf) : w.cell? ⟨cb, 1, none⟩ = some (.int .i64 ht) := gen_cell (j := 1) (row_range h.cell) rfl
theorem ChAt.c2 (h : ChAt w cb ob ht hm dm wm sm pool gf) : w.cell? ⟨cb, 2, none⟩ = some (.map (some hm)) := gen_cell (j := 2) (row_range h.cell) rfl
theorem ChAt.c3 (h : ChAt w cb ob ht hm dm wm sm pool gf) : w.cell? ⟨cb, 3, none⟩ = some (.map (some dm)) := gen_cell (j := 3) (row_range h.cell) rfl
theorem ChAt.c4 (h : ChAt w cb ob ht hm dm wm sm pool gf) : w.cell? ⟨cb, 4, none⟩ = some (.map (some wm)) := gen_cell (j := 4) (row_range h.cell) rfl
theorem ChAt.c5 (h : ChAt w cb ob ht hm dm wm sm pool gf) : w.cell? ⟨cb, 5, none⟩ = some (.map (some sm)) := gen_cell (j := 5) (row_range h.cell) rfl
theorem ChAt.c6 (h : ChAt w cb ob ht hm dm wm sm pool gf) : w.cell? ⟨cb, 6, none⟩ = some pool := gen_cell (j := 6) (row_range h.cell) rfl
theorem ChAt.c7 (h : ChAt w cb ob ht hm dm wm sm pool gf) : w.cell? ⟨cb, 7, none⟩ = some (.int .i64 gf) := gen_cell (j := 7) (row_range h.cell) rfl
theorem ChAt.fz (h : ChAt w cb ob ht hm dm wm sm pool gf) (k : Nat) : w.frozen? ⟨cb, k, none⟩ = false := frozen_of_row _ _ _ _ _ h.cell
theorem ChAt.lt (h : ChAt w cb ob ht hm dm wm sm pool gf) : cb < w.heap.size := (Array.getElem?_eq_some_iff.1 h.cell).1
theorem ChAt.keep {S : Nat → Prop} (h : ChAt w cb ob ht hm dm wm sm pool gf) (k : Keep S w w') (hn : ¬ S cb) : ChAt w' cb ob ht hm dm wm sm pool gf := ⟨k.heap h.cell hn⟩
theorem ChAt.below (h : ChAt w cb ob ht hm dm wm sm pool gf) (b : Below w.heap.size w w') : ChAt w' cb ob ht hm dm wm sm pool gf := ⟨heap_keep h.cell b⟩
theorem cheight_walk (h : ChAt w cb ob ht hm dm wm sm pool gf) : Calls Tryd.prog 21 #[.pointer (some ⟨cb, 0, none⟩)] w fun e w' => e = .returned (.int .i64 ht) ∧ w = w' := by
 have c1 := h.c1
 clear h
 go_enter Tryd.func21, Tryd.ntmps21
 go_wp2
 go_ret
 exact ⟨rfl, rfl⟩
end
def NewCRes (w : World) (ob : Nat) (e : Ending) (w' : World) : Prop :=
 ∃ cb hm dm wm sm, e = .returned (.pointer (some ⟨cb, 0, none⟩)) ∧ ChAt w' cb ob 0 hm dm wm sm (.slice none 0 0) 0 ∧ MapIs EP w' hm (fun _ => none) 0 ∧ MapIs EH w' dm (fun _ => none) 0 ∧ MapIs EH w' wm (fun _ => none) 0 ∧ MapIs EP w' sm (fun _ => none) 0 ∧
  (w.heap.size ≤ hm ∧ hm < dm ∧ dm < wm ∧ wm < sm ∧ sm < cb) ∧ Below w.heap.size w w'
set_option maxRecDepth 100000 in
set_option maxHeartbeats 4000000 in
theorem cnew_walk (ob : Nat) (w : World) : Calls Tryd.prog 13 #[.pointer (some ⟨ob, 0, none⟩)] w (NewCRes w ob) := by
 have hmm := @run_makeMap Tryd.prog
 obtain ⟨w1, hw1⟩ : ∃ w1, w1 = w.alloc (.map #[] 0) := ⟨_, rfl⟩
 obtain ⟨w2, hw2⟩ : ∃ w2, w2 = w1.alloc (.map #[] 0) := ⟨_, rfl⟩
 obtain ⟨w3, hw3⟩ : ∃ w3, w3 = w2.alloc (.map #[] 0) := ⟨_, rfl⟩
 obtain ⟨w4, hw4⟩ : ∃ w4, w4 = w3.alloc (.map #[] 0) := ⟨_, rfl⟩
 obtain ⟨w5, hw5⟩ : ∃ w5, w5 = w4.alloc (.cells (chL ob 0 w.heap.size w1.heap.size w2.heap.size w3.heap.size (.slice none 0 0) 0).toArray 122) := ⟨_, rfl⟩
 have b1 : Below w.heap.size w w1 := by rw [hw1]; exact (Below.refl _ _).alloc (Nat.le_refl _) _
 have b2 : Below w1.heap.size w1 w2 := by rw [hw2]; exact (Below.refl _ _).alloc (Nat.le_refl _) _
 have b3 : Below w2.heap.size w2 w3 := by rw [hw3]; exact (Below.refl _ _).alloc (Nat.le_refl _) _
 have b4 : Below w3.heap.size w3 w4 := by rw [hw4]; exact (Below.refl _ _).alloc (Nat.le_refl _) _
 have b5 : Below w4.heap.size w4 w5 := by rw [hw5]; exact (Below.refl _ _).alloc (Nat.le_refl _) _
 have m1 : MapIs EP w1 w.heap.size (fun _ => none) 0 := by rw [hw1]; exact MapIs.made w
 have m2 : MapIs EH w2 w1.heap.size (fun _ => none) 0 := by rw [hw2]; exact MapIs.made w1
 have m3 : MapIs EH w3 w2.heap.size (fun _ => none) 0 := by rw [hw3]; exact MapIs.made w2
 have m4 : MapIs EP w4 w3.heap.size (fun _ => none) 0 := by rw [hw4]; exact MapIs.made w3
 have hc : ChAt w5 w4.heap.size ob 0 w.heap.size w1.heap.size w2.heap.size w3.heap.size (.slice none 0 0) 0 := ⟨by rw [hw5]; exact heap_alloc_new _ _⟩
 have F := hid (show NewCRes w ob (.returned (.pointer (some ⟨w4.heap.size, 0, none⟩))) w5 from
  ⟨_, _, _, _, _, rfl, hc, (((m1.below b2).below b3).below b4).below b5, ((m2.below b3).below b4).below b5, (m3.below b4).below b5, m4.below b5, ⟨Nat.le_refl _, m1.lt, m2.lt, m3.lt, m4.lt⟩,
   (((b1.trans (b2.mono b1.size)).trans (b3.mono (Nat.le_trans b1.size b2.size))).trans (b4.mono (Nat.le_trans (Nat.le_trans b1.size b2.size) b3.size))).trans (b5.mono (Nat.le_trans (Nat.le_trans (Nat.le_trans b1.size b2.size) b3.size) b4.size))⟩)
 clear b1 b2 b3 b4 b5 m1 m2 m3 m4 hc
 subst hw5 hw4 hw3 hw2 hw1
 go_enter Tryd.func13, Tryd.ntmps13
 go_wp2
 go_ret
 simpa [chL] using F.out
end Go.Proofs.YtnbmpgballopeaaDoor
/- The chain's Spent. -/
namespace Go.Proofs.YtnbmpgballopeaaDoor
open Go.RowKit
def hashM (SM : List Nat × Int → Option (List Nat)) : List Nat × Int → Option Value := fun p => (SM p).map (fun x => .agg (nums .u8 x).toArray)
end Go.Proofs.YtnbmpgballopeaaDoor
/- An office of tokens: what it knows; how many; a new one. -/
namespace Go.Proofs.YtnbmpgballopeaaDoor
open Go.RowKit
theorem keyEnt : KeyT 130 3 := ⟨by kernel_rfl, by kernel_rfl, by kernel_rfl, by decide, by kernel_rfl⟩
theorem kl_ent {d : Nat} {x y : List Nat} (hx : EH.ok x) (hy : EH.ok y) : KL (d + 3) 130 (nums .u8 (x ++ y)) := by
 refine KL.struct Tryd.underlying130 (by rw [nums_length, List.length_append, hx.1, hy.1]; kernel_rfl) (by kernel_rfl) fun f hf => ?_
 have hc : Tryd.prog.cellsOf 49 = 32 := by kernel_rfl
 have e : nums .u8 (x ++ y) = nums .u8 x ++ nums .u8 y := (nums_append .u8 x y).symm
 simp only [List.mem_cons, List.not_mem_nil, or_false] at hf
 rcases hf with rfl | rfl
 ·rw [e, List.drop_zero, hc, List.take_left' (by rw [nums_length, hx.1])]
  exact KL.bytes (d := d) Tryd.underlying49 (by kernel_rfl) hx.1 hx.2
 ·rw [e, hc, List.drop_left' (by rw [nums_length, hx.1]), List.take_of_length_le (by rw [nums_length, hy.1]; exact Nat.le_refl _)]
  exact KL.bytes (d := d) Tryd.underlying49 (by kernel_rfl) hy.1 hy.2
theorem kv_ent {x y : List Nat} (hx : EH.ok x) (hy : EH.ok y) : KV 130 (.agg (nums .u8 (x ++ y)).toArray) :=
 KV.mk keyEnt.wide (by kernel_rfl) (by rw [nums_length, List.length_append, hx.1, hy.1]; kernel_rfl) (fun d => kl_ent (d := d + 5) hx hy)
theorem ent_inj {x y a b : List Nat} (hx : EH.ok x) (ha : EH.ok a) : Value.agg (nums .u8 (x ++ y)).toArray = .agg (nums .u8 (a ++ b)).toArray ↔ (x = a ∧ y = b) := by
 constructor
 ·intro h
  have h1 := congrArg Array.toList (Value.agg.inj h)
  have h2 := nums_inj h1
  exact List.append_inj h2 (by rw [hx.1, ha.1])
 ·rintro ⟨rfl, rfl⟩; rfl
def aldB (M : EM) (ow what tk : List Nat) : Bool := decide (M tk = some (ow, what))
def AldRes (b : Bool) (w : World) (e : Ending) (w' : World) : Prop := e = .returned (.bool b) ∧ Below w.heap.size w w'
set_option maxRecDepth 100000 in
set_option maxHeartbeats 8000000 in
theorem allowed_walk (ow what tk : List Nat) (hoo : EH.ok ow) (hwo : EH.ok what) (htk : EH.ok tk) (ob mb n : Nat) (M : EM) (w : World) (h : OffAt w ob mb M n) :
  Calls Tryd.prog 63 #[.pointer (some ⟨ob, 0, none⟩), hv ow, hv what, hv tk] w (AldRes (aldB M ow what tk) w) := by
 have HO := hid h
 have A3 := alloc3p w (.cells (nums .u8 ow).toArray 49) (.cells (nums .u8 what).toArray 49) (.cells (nums .u8 tk).toArray 49)
 clear h
 unfold hv
 go_enter Tryd.func63, Tryd.ntmps63
 go_upto_region 3 with (fail)
 obtain ⟨gP, gQ, gK, b0⟩ := A3
 generalize World.alloc (World.alloc (World.alloc w _) _) _ = wz at *
 have BZ := hid b0
 have HOz := hid (HO.out.below b0)
 have hPz := hid gP
 have hQz := hid gQ
 have unH := Tryd.underlying49
 have hiL := hid (show (Tryd.prog.info? 49).map (·.size) = some (nums .u8 tk).length by rw [nums_length, htk.1]; kernel_rfl)
 have hiLs := hid (show (Tryd.prog.info? 49).map (·.size) = some (nums .u8 ow).length by rw [nums_length, hoo.1]; kernel_rfl)
 have hiLw := hid (show (Tryd.prog.info? 49).map (·.size) = some (nums .u8 what).length by rw [nums_length, hwo.1]; kernel_rfl)
 generalize hP : w.heap.size = P at *
 generalize hQ : P + 1 = Q at *
 generalize hK7 : Q + 1 = K7 at *
 obtain ⟨EV, kn, hval, hEV, hkn⟩ : ∃ (EV : Array Value) (kn : Bool), Hid ((if true = true then Value.tuple #[(valE M tk).getD (.agg zE), .bool (valE M tk).isSome] else (valE M tk).getD (.agg zE)) = .tuple #[.agg EV, .bool kn]) ∧ Hid (EV.size = 64 ∧ EV.all (·.oneCell') = true) ∧ Hid ((kn = false ∧ M tk = none) ∨ (kn = true ∧ ∃ e, M tk = some e ∧ EV = (nums .u8 (e.1 ++ e.2)).toArray ∧ EH.ok e.1 ∧ EH.ok e.2)) := by
  rw [if_pos rfl]
  unfold valE
  cases hm : M tk with
  | none => exact ⟨zE, false, hid rfl, hid ⟨rfl, all_oneCell_toArray (nums_oneCell .u8 _)⟩, hid (.inl ⟨rfl, rfl⟩)⟩
  | some e =>
   have := HOz.out.ok _ e hm
   exact ⟨(nums .u8 (e.1 ++ e.2)).toArray, true, hid rfl, hid ⟨by simp [this.1.1, this.2.1], all_oneCell_toArray (nums_oneCell .u8 _)⟩, hid (.inr ⟨rfl, e, rfl, rfl, this⟩)⟩
 have hEi := hid (show (Tryd.prog.info? 130).map (·.size) = some EV.size by rw [hEV.out.1]; kernel_rfl)
 have hEz := hid (fun (y : Array Value) (hy : y.size = 64) => hy.trans hEV.out.1.symm)
 have hEo := hid hEV.out.2
 have keepS : ∀ X Y : World, Below X.heap.size X Y → (X.cell? ⟨ob, 0, none⟩ = some (.map (some mb)) ∧ X.rangeAt K7 0 (nums .u8 tk) ∧ MapIs EH X mb (valE M) n) → (Y.cell? ⟨ob, 0, none⟩ = some (.map (some mb)) ∧ Y.rangeAt K7 0 (nums .u8 tk) ∧ MapIs EH Y mb (valE M) n) :=
  fun X Y hb h => ⟨cell_keep hb h.1, range_keep hb h.2.1, h.2.2.below hb⟩
 have f1 : wz.cell? ⟨ob, 0, none⟩ = some (.map (some mb)) := cellA HOz.out.st rfl
 have f2 := row_range gK
 have f3 := HOz.out.map
 clear b0 gK gP gQ
 refine wp_region_held_drew (S := fun w' => w'.cell? ⟨ob, 0, none⟩ = some (.map (some mb)) ∧ w'.rangeAt K7 0 (nums .u8 tk) ∧ MapIs EH w' mb (valE M) n) (by kernel_rfl) (⟨f1, f2, f3⟩) (fun hHeld => ?_)
 try simp only [List.size_toArray, List.length_cons, List.length_nil, Nat.reduceAdd, Array.replicate_succ, Array.replicate_zero, List.push_toArray, List.nil_append, List.cons_append]
 refine tkH (i := 0) (oi := ⟨some 14, .move (.tmp 0), 44, "token.go:47", #[], none⟩) (v := ?v8001) (yi ?y8001) hHeld ?_
 case y8001 => (intro w _; go_simp; (try with_reducible rfl))
 (try simp only [Act.put, s0, s1, s2])
 refine tkH (i := 1) (oi := ⟨some 15, .nilCheck (.tmp 14), 0, "token.go:47", #[⟨0, .data⟩], none⟩) (v := ?v8002) (yi ?y8002) hHeld ?_
 case y8002 => (intro w _; go_simp; (try with_reducible rfl))
 (try simp only [Act.put, s0, s1, s2])
 refine tkH (i := 2) (oi := ⟨some 16, .fieldAddr 115 (.tmp 15) 0, 0, "token.go:47", #[⟨1, .data⟩], none⟩) (v := ?v8003) (yi ?y8003) hHeld ?_
 case y8003 => (intro w _; go_simp; (try with_reducible rfl))
 (try simp only [Act.put, s0, s1, s2])
 refine tkH (i := 3) (oi := ⟨some 17, .load 108 (.tmp 16), 108, "token.go:47", #[⟨2, .data⟩], none⟩) (v := ?v8004) (yi ?y8004) hHeld ?_
 case y8004 => (intro w _; go_simp; (try with_reducible rfl))
 (try simp only [Act.put, s0, s1, s2])
 refine' tkH (i := 4) (oi := ⟨some 18, .load 49 (.tmp 7), 49, "token.go:47", #[], none⟩) (v := _) (yieldsIf_load_mid (by rfl) _ _ rfl K7 0 rfl (nums .u8 tk) _ (fun _ h => h.2.1) unH rfl hiL.out) hHeld ?_
 (try simp only [Act.put, s0, s1, s2])
 refine tkH (i := 5) (oi := ⟨some 19, .lookup 108 (.tmp 17) (.tmp 18) true, 131, "token.go:47", #[⟨3, .data⟩, ⟨4, .data⟩], none⟩) (v := .tuple #[.agg EV, .bool kn]) (Or.inl ⟨by rfl, fun w h => by rw [← hval.out]; exact run_look _ _ _ true rfl unE (zeroE w) h.2.2 rfl tk htk rfl⟩) hHeld ?_
 (try simp only [Act.put, s0, s1, s2])
 refine tkH (i := 6) (oi := ⟨some 13, .move (.tmp 19), 131, "token.go:47", #[⟨5, .data⟩], none⟩) (v := ?v8005) (yi ?y8005) hHeld ?_
 case y8005 => (intro w _; go_simp; (try with_reducible rfl))
 (try simp only [Act.put, s0, s1, s2])
 refine tkH (i := 7) (oi := ⟨some 20, .extract (.tmp 13) 0, 130, "token.go:47", #[⟨6, .data⟩], none⟩) (v := ?v8006) (yi ?y8006) hHeld ?_
 case y8006 => (intro w _; go_simp; (try with_reducible rfl))
 (try simp only [Act.put, s0, s1, s2])
 refine tkH (i := 8) (oi := ⟨some 21, .extract (.tmp 13) 1, 4, "token.go:47", #[⟨6, .data⟩, ⟨10, .gcOnly Departure.lateStores⟩], none⟩) (v := ?v8007) (yi ?y8007) hHeld ?_
 case y8007 => (intro w _; go_simp; (try with_reducible rfl))
 (try simp only [Act.put, s0, s1, s2])
 refine wpAnyH_ready (rs := [9]) (by kernel_rfl) (by simp) ?_
 refine AllReadyH.cons (o := ⟨some 9, .alloc 130, 0, "token.go:47", #[], none⟩) rfl (fun K hK => ?_) ?_
 go_simp; (first | refine newZ ?_ | refine newZd ?_); intro w5 h5 b5
 refine hK.out _ _ (keepS _ _ b5.out ⟨f1, f2, f3⟩) (fun hHeld => ?_)
 clear hK K
 (try simp only [s0, s1, s2])
 refine wpAnyH_ready (rs := [10]) (by kernel_rfl) (by simp) ?_
 refine AllReadyH.cons (o := ⟨none, .store 130 (.tmp 9) (.tmp 20), 0, "token.go:47", #[⟨9, .data⟩, ⟨7, .data⟩, ⟨0, .phase⟩, ⟨1, .phase⟩, ⟨2, .phase⟩, ⟨3, .phase⟩, ⟨4, .phase⟩, ⟨5, .phase⟩, ⟨6, .phase⟩, ⟨7, .phase⟩, ⟨8, .textOnly Departure.lateStores⟩, ⟨9, .phase⟩], none⟩) rfl (fun K hK => ?_) ?_
 rw [if_pos (by rfl)]; refine wp_store_row _ _ _ rfl _ EV rfl rfl _ _ h5.out hEi.out (hEz.out _ rfl) hEo.out ?_
 refine hK.out _ _ (keepS _ _ (below_setRow b5.out (Nat.le_refl _) _) ⟨f1, f2, f3⟩) (fun hHeld => ?_)
 clear hK K
 (try simp only [s0, s1, s2])
 refine tkH (i := 11) (oi := ⟨some 10, .assign (.tmp 21), 4, "token.go:47", #[⟨8, .data⟩, ⟨10, .chain⟩, ⟨0, .phase⟩, ⟨1, .phase⟩, ⟨2, .phase⟩, ⟨3, .phase⟩, ⟨4, .phase⟩, ⟨5, .phase⟩, ⟨6, .phase⟩, ⟨7, .phase⟩, ⟨8, .phase⟩, ⟨9, .phase⟩, ⟨10, .phase⟩], none⟩) (v := ?v8008) (yi ?y8008) hHeld ?_
 case y8008 => (intro w _; go_simp; (try with_reducible rfl))
 (try simp only [Act.put, s0, s1, s2])
 refine wpAnyH_done (by kernel_rfl) ?_ _
 rotate_left
 exact AllReadyH.nil
 exact AllReadyH.nil
 have b7 := below_setRow b5.out (Nat.le_refl _) EV
 have hE7 := hid (setRow_heap _ _ _ _ _ _ h5.out : (w5.setRow wz.heap.size EV).heap[wz.heap.size]? = some (.cells EV 130 (0, 0)))
 have hP7 := hid (heap_keep hPz.out b7)
 have hQ7 := hid (heap_keep hQz.out b7)
 have B7 := hid (BZ.out.trans (b7.mono (by have := BZ.out.size; omega)))
 clear hHeld keepS f1 f2 f3 h5 b5 b7
 generalize w5.setRow wz.heap.size EV = w7 at *
 generalize wz.heap.size = KE at *
 have unE2 := Tryd.underlying130
 have HBT := hid (built_ent ow what hoo.1 hwo.1)
 rcases hkn.out with ⟨rfl, hm⟩ | ⟨rfl, e, hm, hev, he1, he2⟩
 ·have hb : aldB M ow what tk = false := by unfold aldB; rw [hm]; rfl
  have HB := hid hb
  clear hb
  go_wp2
  go_ret
  exact ⟨by rw [HB.out]; rfl, hP ▸ B7.out⟩
 ·subst hev
  have hiE := hid (show (Tryd.prog.info? 130).map (·.size) = some (nums .u8 (e.1 ++ e.2)).length by rw [nums_length, List.length_append, he1.1, he2.1]; kernel_rfl)
  have r1 := keyEnt.guarded (nums .u8 (e.1 ++ e.2)).toArray (nums .u8 (ow ++ what)).toArray
  have r2 := keyEnt.eql (kv_ent he1 he2) (kv_ent hoo hwo) (ent_inj (y := e.2) (b := what) he1 hoo)
  have hb : aldB M ow what tk = decide (e.1 = ow ∧ e.2 = what) := by
   unfold aldB
   rw [hm, decide_eq_decide]
   obtain ⟨e1, e2⟩ := e
   simp
  have HB := hid hb
  clear hb
  generalize decide (e.1 = ow ∧ e.2 = what) = B at *
  have rE := row_range hE7.out
  have rP := row_range hP7.out
  have rQ := row_range hQ7.out
  clear hm hkn hval hEi hEz hEo hEV
  go_wp2_with (first | refine wpList_load_midG rfl _ _ rfl KE 0 rfl (nums .u8 (e.1 ++ e.2)) _ rE unE2 rfl hiE.out ?_ | refine wpList_load_midG rfl _ _ rfl P 0 rfl (nums .u8 ow) _ rP unH rfl hiLs.out ?_ | refine wpList_load_midG rfl _ _ rfl Q 0 rfl (nums .u8 what) _ rQ unH rfl hiLw.out ?_ | refine wpList_build2G rfl _ _ _ rfl HBT.out rfl rfl ?_)
  go_ret
  exact ⟨by rw [HB.out]; rfl, hP ▸ B7.out⟩
def NewORes (w : World) (e : Ending) (w' : World) : Prop := ∃ ob mb, e = .returned (.pointer (some ⟨ob, 0, none⟩)) ∧ OffAt w' ob mb (fun _ => none) 0 ∧ w.heap.size ≤ ob ∧ w.heap.size ≤ mb ∧ Below w.heap.size w w'
set_option maxHeartbeats 1000000 in
theorem onew_walk (w : World) : Calls Tryd.prog 12 #[] w (NewORes w) := by
 have hmm := @run_makeMap Tryd.prog
 have m1 := MapIs.made (E := EH) w
 have A2 := alloc2p w (.map #[] 0) (.cells #[.map (some w.heap.size), .int .i64 0] 115)
 have hT : OffAt ((w.alloc (.map #[] 0)).alloc (.cells #[.map (some w.heap.size), .int .i64 0] 115)) (w.heap.size + 1) w.heap.size (fun _ => none) 0 :=
  ⟨A2.2.1, m1.below ((Below.refl _ _).alloc (Nat.le_refl _) _), fun _ _ h => (by cases h), by decide, by omega⟩
 have F := hid (show NewORes w (.returned (.pointer (some ⟨w.heap.size + 1, 0, none⟩))) _ from ⟨_, _, rfl, hT, by omega, Nat.le_refl _, A2.2.2.2⟩)
 clear hT A2 m1
 go_enter Tryd.func12, Tryd.ntmps12
 go_wp2
 go_ret
 exact F.out
end Go.Proofs.YtnbmpgballopeaaDoor
/- The law's mine: an output of one owner. -/
namespace Go.Proofs.YtnbmpgballopeaaDoor
open Go.RowKit
def ownP (x : List Nat) : PathD := ⟨x, zh, zh, 0, 0⟩
set_option maxRecDepth 100000 in
theorem bPath' (a0 a1 a2 a3 a4 a5 a6 a7 a8 a9 a10 a11 a12 a13 a14 a15 a16 a17 a18 a19 a20 a21 a22 a23 a24 a25 a26 a27 a28 a29 a30 a31 : Nat) : Tryd.prog.built 83 [(0, .agg (nums .u8 [a0, a1, a2, a3, a4, a5, a6, a7, a8, a9, a10, a11, a12, a13, a14, a15, a16, a17, a18, a19, a20, a21, a22, a23, a24, a25, a26, a27, a28, a29, a30, a31]).toArray)] = some (ownP [a0, a1, a2, a3, a4, a5, a6, a7, a8, a9, a10, a11, a12, a13, a14, a15, a16, a17, a18, a19, a20, a21, a22, a23, a24, a25, a26, a27, a28, a29, a30, a31]).cells.toArray := by kernel_rfl
theorem bPath (x : List Nat) (h : x.length = 32) : Tryd.prog.built 83 [(0, .agg (nums .u8 x).toArray)] = some (ownP x).cells.toArray := by
 match x, h with
 | [a0, a1, a2, a3, a4, a5, a6, a7, a8, a9, a10, a11, a12, a13, a14, a15, a16, a17, a18, a19, a20, a21, a22, a23, a24, a25, a26, a27, a28, a29, a30, a31], _ => exact bPath' ..
set_option maxRecDepth 100000 in
theorem bOut (c : Int) (a : Option Addr) (n k : Nat) : Tryd.prog.built 57 [(0, .int .u64 c), (1, .slice a n k)] = some (Value.int .u64 c :: Value.slice a n k :: nums .u8 zh).toArray := by kernel_rfl
def mineO (coins : Nat) (g : Nat) (x : List Nat) : OutD := ⟨coins, some ⟨g, 0, none⟩, 1, [ownP x], zh⟩
def MineR (w : World) (coins : Nat) (sec : List Nat) (e : Ending) (w' : World) : Prop :=
 ∃ g, e = .returned (.agg (mineO coins g (ownD sec)).cells.toArray) ∧ w.heap.size ≤ g ∧ (mineO coins g (ownD sec)).good w' ∧ Below w.heap.size w w'
theorem zh32 : H32b zh := ⟨rfl, by decide⟩
theorem i64z : i64ok 0 := ⟨by decide, by decide⟩
theorem ownP_ok {x : List Nat} (h : H32b x) : (ownP x).ok := ⟨h, zh32, zh32, i64z, i64z⟩
set_option maxRecDepth 100000 in
set_option maxHeartbeats 4000000 in
theorem cmine_walk (coins : Nat) (hc : coins < 18446744073709551616) (sec : List Nat) (hs : H32b sec) (w : World) (ht : Tabs w) :
  Calls Tryd.prog 15 #[.int .u64 (coins : Int), .agg (nums .u8 sec).toArray] w (MineR w coins sec) := by
 have HT := hid ht
 have HS := hid hs
 have HC := hid hc
 obtain ⟨zo, hzo⟩ : ∃ zo : Array Value, zo = zOut := ⟨_, rfl⟩
 have ZH : ∀ w : World, (zeroValue 57).run Tryd.prog w = .ok (.agg zo) w := by rw [hzo]; exact zv_of (by kernel_rfl)
 have zl := hid (show zo.size = 34 by rw [hzo]; rfl)
 have A2 := alloc2p w (.cells (nums .u8 sec).toArray 49) (.cells zo 57)
 have HA := hid A2.1
 have HR := hid A2.2.1
 have B1 := hid A2.2.2.2
 have hiS := hid (show (Tryd.prog.info? 49).map (·.size) = some (nums .u8 sec).length by rw [nums_length, hs.1]; kernel_rfl)
 clear ht hs hc hzo A2
 go_enter Tryd.func15, Tryd.ntmps15
 go_upto_region 1 with (fail)
 generalize (w.alloc (.cells (nums .u8 sec).toArray 49)).alloc (.cells zo 57) = w1 at *
 have rS := row_range HA.out
 go_wp2_with (with_reducible refine wpList_load_mid rfl _ _ rfl w.heap.size 0 rfl (nums .u8 sec) _ rS Tryd.underlying49 rfl hiS.out ?_)
 refine (owner_walk sec HS.out.1 HS.out.2 w1 (HT.out.below B1.out)).mono ?_
 rintro e w2 ⟨rfl, b2⟩
 have B2 := hid (show Below w.heap.size w w2 from B1.out.trans (b2.mono B1.out.size))
 have HR2 := hid (heap_keep HR.out b2)
 have W1 := hid (show w.heap.size + 1 < w1.heap.size from (Array.getElem?_eq_some_iff.1 HR.out).1)
 have b2s := hid b2.size
 obtain ⟨x, hx⟩ : ∃ x, x = ownD sec := ⟨_, rfl⟩
 have XO := hid (show H32b x from by rw [hx]; exact ⟨sha_len _, sha_lt _⟩)
 have HX := hid hx
 rw [← hx]
 clear b2 rS hx
 have BP := hid (bPath x XO.out.1)
 obtain ⟨pcs, hpcs⟩ : ∃ pcs, pcs = (ownP x).cells := ⟨_, rfl⟩
 have HP := hid hpcs
 have PL := hid (show pcs.toArray.size = 98 by rw [hpcs, List.size_toArray, PathD.len (ownP_ok XO.out)])
 rw [← hpcs] at BP
 have hPi := hid (show (Tryd.prog.info? 83).map (·.size) = some 98 by kernel_rfl)
 have hPz := hid (show ((Tryd.prog.info? 83).bind (·.zero)).isSome = true by kernel_rfl)
 have BO := hid (bOut (coins : Int) (some ⟨w2.heap.size, 0, none⟩) 1 1)
 obtain ⟨ocs, hocs⟩ : ∃ ocs, ocs = (mineO coins w2.heap.size x).cells := ⟨_, rfl⟩
 have HO := hid hocs
 rw [show (Value.int .u64 (coins : Int) :: Value.slice (some ⟨w2.heap.size, 0, none⟩) 1 1 :: nums .u8 zh) = ocs from by rw [hocs]; rfl] at BO
 have OLn := hid (show ocs.length = 34 by rw [hocs]; rfl)
 have hiO := hid (show (Tryd.prog.info? 57).map (·.size) = some ocs.toArray.size by rw [List.size_toArray, OLn.out]; kernel_rfl)
 have hoO := hid (show zo.size = ocs.toArray.size by rw [zl.out, List.size_toArray, OLn.out])
 have h16 := hid (show (ocs.toArray.all fun x => x.oneCell') = true by rw [hocs]; exact all_oneCell_toArray (OutD.one _))
 have b3 := (Below.refl w2.heap.size w2).alloc (Nat.le_refl _) (.cells pcs.toArray 83)
 have hR3 := heap_keep HR2.out b3
 have hP3 := heap_alloc_new w2 (.cells pcs.toArray 83)
 clear hpcs hocs
 go_wp2_with (first | with_reducible refine wpList_build1 rfl _ _ rfl BP.out rfl ?_ | with_reducible refine wpList_lit1 rfl _ _ _ rfl rfl Tryd.underlying55 hPi.out hPz.out PL.out (by decide) (by decide) ?_ | with_reducible refine wpList_build2 rfl _ _ _ rfl BO.out rfl rfl ?_ | refine wpList_store_row rfl _ _ _ rfl (w.heap.size + 1) ocs.toArray rfl rfl _ _ hR3 hiO.out hoO.out h16.out ?_)
 refine bodyPost_ret (results_cellH rfl _ _ (w.heap.size + 1) _ ocs.toArray _ _ rfl (setRow_heap _ _ _ _ _ _ hR3) Tryd.underlying57 rfl hiO.out) rfl ?_
 have hne : w2.heap.size ≠ w.heap.size + 1 := by have := W1.out; have := b2s.out; omega
 have hP4 := heap_far hP3 (far_row (w2.alloc (.cells pcs.toArray 83)) (w.heap.size + 1) ocs.toArray) hne
 have rP := row_range hP4
 have pl : pcs.length = 98 := by have := PL.out; simpa using this
 refine ⟨w2.heap.size, by rw [HO.out, HX.out], B2.out.size, ⟨HC.out, zh32, ?_, fun p hp => ?_⟩, below_setRow (B2.out.trans (b3.mono B2.out.size)) (by omega) _⟩
 ·show Rd _ 98 (some ⟨w2.heap.size, 0, none⟩) 1 1 ([ownP (ownD sec)].flatMap PathD.cells)
  rw [show [ownP (ownD sec)].flatMap PathD.cells = pcs from by rw [HP.out, HX.out]; simp]
  exact ⟨by rw [pl], Nat.le_refl _, by decide, (fun e => nomatch e), w2.heap.size, 0, fun _ => rfl, fun j u hu => rP j u hu⟩
 ·have hp' : p ∈ [ownP (ownD sec)] := hp
  rw [List.mem_singleton] at hp'
  rw [hp']
  exact ownP_ok (by rw [← HX.out]; exact XO.out)
end Go.Proofs.YtnbmpgballopeaaDoor
/- The chain's Waits. -/
namespace Go.Proofs.YtnbmpgballopeaaDoor
open Go.RowKit
theorem tyHs : SliceTy Tryd.prog 64 49 32 32 (.agg (nums .u8 zh).toArray) := .mk' Tryd.underlying64 (by kernel_rfl) (by decide) (by decide)
theorem TxD.one (t : TxD) : ∀ u ∈ t.cells, u.oneCell' = true := by
 intro u hu
 simp only [TxD.cells, List.mem_cons, List.not_mem_nil, or_false] at hu
 rcases hu with rfl | rfl <;> rfl
theorem idB_ok (t : TxD) : H32b (idB t) := by
 unfold idB
 split
 ·exact ⟨sha_len _, sha_lt _⟩
 ·exact zh32
end Go.Proofs.YtnbmpgballopeaaDoor

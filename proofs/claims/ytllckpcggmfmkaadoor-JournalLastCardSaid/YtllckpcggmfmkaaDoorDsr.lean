/- A disk's Read, no sector in its queue. -/
import Derived.RangeFuncNested
import Derived.RangeFuncBound
import Derived.RangeFuncCalls
import Derived.RangeFuncLeaves
import Derived.RangeFuncFrom
import Derived.RangeFuncBox
import Derived.Shelf.Abstract
import Derived.Shelf.RegionOpen
import Derived.WalkKit
import Derived.OwnWalkIn
import Derived.TacticsInMore
import Derived.LoopNIn
import Derived.LoopIn
import Derived.Test.YtllckpcggmfmkaaDoorDsn
namespace Go.Proofs.YtllckpcggmfmkaaDoor
open Go.RowKit Go.Shelf

attribute [local go_sem] Oper.semAt_some
set_option maxRecDepth 100000 in
set_option maxHeartbeats 4000000 in
theorem back_run (F : Fence) (n : Nat) (h : F.fn 60) (hro : F.round = none) (l Bs : Nat) (J : List Empty → World → Prop) (W : World) (hBs : W.cell? ⟨Bs, 0, none⟩ = some (.slice none 0 0)) (h0 : J [] W) :
    CallsIn F n Tryd.prog 60 #[.func (.yield l) #[] #[], .pointer (some ⟨Bs, 0, none⟩)] W fun e W' => (∃ v, e = .returned v) ∧ J [] W' := by
  refine callsIn_of_wp Tryd.func60 rfl h ?_ hro
  simp only [Tryd.ntmps60, List.size_toArray, List.length_cons, List.length_nil, Nat.reduceAdd, Nat.reduceSub, Array.replicate_succ, Array.replicate_zero, List.push_toArray, List.append_toArray, List.nil_append, List.cons_append]
  gi_wp2
  gi_loopw [3] (fun i wr => i = .int .i64 (-1) ∧ J [] wr) (fun _ _ => 0)
  case atStart => exact ⟨rfl, h0⟩
  case round =>
    obtain ⟨rfl, hJs⟩ := hrel
    gi_wp2
    go_end0
    exact ⟨⟨_, rfl⟩, hJs⟩
set_option maxRecDepth 100000 in
set_option maxHeartbeats 4000000 in
theorem back_in (F : Fence) (n : Nat) (h : F.fn 55) (hro : F.round = none) (a : Option Addr) (len cap : Nat) (w : World) :
    CallsIn F n Tryd.prog 55 #[.slice a len cap] w fun e w' => e = .returned (.func (.func 60) #[] #[.pointer (some ⟨w.heap.size, 0, none⟩)]) ∧ w' = w.alloc (.cells #[.slice a len cap] 50) := by
  refine callsIn_of_wp Tryd.func55 rfl h ?_ hro
  simp only [Tryd.ntmps55, List.size_toArray, List.length_cons, List.length_nil, Nat.reduceAdd, Nat.reduceSub, Array.replicate_succ, Array.replicate_zero, List.push_toArray, List.append_toArray, List.nil_append, List.cons_append]
  gi_wp2
  go_ret
  exact ⟨rfl, rfl⟩
theorem back_stops (F : Fence) (n : Nat) (h : F.fn 60) (hro : F.round = none) (Bs : Nat) (n₀ : Nat) (w : World) (hBs : Bs < w.heap.size) (hc : w.cell? ⟨Bs, 0, none⟩ = some (.slice none 0 0)) :
    SeqStopsK F n Tryd.prog 60 #[.pointer (some ⟨Bs, 0, none⟩)] (fun x : Empty => x.elim) (Below n₀) (fun _ => True) (fun _ => True) 0 w := fun l J Jx W hW _ _ _ h0 => by
  have hc' := (hW.cell (p := ⟨Bs, 0, none⟩) hBs).trans hc
  exact (back_run F n h hro l Bs J W hc' h0).mono fun e W' ⟨he, hj⟩ => ⟨he, .inl ⟨_, trivial, hj⟩⟩
def NormO (K : Act → World → Prop) : Exit → Act → World → Prop
  | .normal, a, w => K a w
  | _, _, _ => False
def RdR (w : World) (bs : List Nat) (e : Ending) (w' : World) : Prop := ∃ v, e = .returned (.tuple #[v, .int .i64 0]) ∧ w'.ownsRow w.heap.size 5 1 v bs.length (nums .u8 bs) ∧ Below w.heap.size w w'
set_option maxRecDepth 100000 in
set_option maxHeartbeats 8000000 in
theorem dread_walk {w : World} {db B : Nat} {sv : Value} {C : List (List Nat)} (h : DiskAt w db B sv (.slice none 0 0) C []) (pos : Nat) (bs : List Nat) (hp : C[pos]? = some bs) :
    Calls Tryd.prog 44 #[.pointer (some ⟨db, 0, none⟩), .int .i64 (pos : Int)] w (RdR w bs) := by
  have H := hid h
  have hpl := (List.getElem?_eq_some_iff.1 hp).1
  have few := h.few
  have c0 := h.c0
  have c1 := h.c1
  have c3 := h.c3
  obtain ⟨sa, sc, rfl⟩ := h.sv_eq
  have HP := hid hp
  clear h hp
  have A3 := alloc3p w (.cells #[.int .i64 (pos : Int)] 3) (.cells #[.slice none 0 0] 23) (.cells #[.int .i64 0] 38)
  have b3 := A3.2.2.2
  have p0 := gen_cell (j := 0) (row_range (L := [.int .i64 (pos : Int)]) A3.1) rfl
  have p3 := cell_keep b3 c3
  have q0 := cell_keep b3 c0
  have q1 := cell_keep b3 c1
  have B3 := hid b3
  have A3' := hid A3
  have t1 : decide ((pos : Int) < 0) = false := decide_eq_false (by omega)
  have t2 : decide ((pos : Int) ≥ (C.length : Int)) = false := decide_eq_false (by omega)
  have t3 : decide ((C.length : Int) ≤ (pos : Int)) = false := decide_eq_false (by omega)
  have t4 : decide (C.length ≤ pos) = false := decide_eq_false (by omega)
  clear A3 b3 c0 c1 c3
  refine (callsIn_wide (n := 3)).1 ?_
  refine callsIn_of_wp_marks Tryd.func44 rfl trivial ?_ rfl
  simp only [Tryd.ntmps44, List.size_toArray, List.length_cons, List.length_nil, Nat.reduceAdd, Nat.reduceSub, Array.replicate_succ, Array.replicate_zero, List.push_toArray, List.append_toArray, List.nil_append, List.cons_append]
  gi_wp2
  generalize ((w.alloc (.cells #[.int .i64 (pos : Int)] 3)).alloc (.cells #[.slice none 0 0] 23)).alloc (.cells #[.int .i64 0] 38) = w3 at *
  gi_region
  gi_wp2_with (refine ⟨trivial, ?_⟩; gi_at_call 55; refine (back_in Fence.wide _ trivial rfl _ _ _ _).mono ?_; rintro e w' ⟨rfl, rfl⟩)
  have hbox := gen_cell (j := 0) (row_range (L := [.slice none 0 0]) (heap_alloc_new w3.drew (.cells #[.slice none 0 0] 50))) rfl
  refine wpIn_rangeFunc_ownF rfl (by omega) (gf := 60) (lb := #[.pointer (some ⟨w3.drew.heap.size, 0, none⟩)]) rfl trivial (enters_of Tryd.func60 (by kernel_rfl) rfl)
    (back_stops Fence.wide _ trivial rfl w3.drew.heap.size w3.heap.size (w3.drew.alloc (.cells #[.slice none 0 0] 50)) (by simp) hbox) belowK_t (belowK_b (by simp)) (Below.refl _ _) (fun x => x.elim)
    (fun _ W => Below w3.heap.size w3 W) (fun _ _ _ => False) (ownFrom_below (Nat.le_refl _) (by simp)) (fun _ _ _ _ _ hs _ _ => hs) ((Below.refl w3.heap.size w3).drew.alloc (by simp) _)
    (fun x => x.elim) (fun _ x => x.elim) (fun _ _ x => x.elim) ?done ?stop
  case stop =>
    rintro D c pre W hD _ h _
    exact h.elim
  case done =>
    rintro D xs W hD _ hB hK
    have c0' := cell_keep hB q0
    have p0' := cell_keep hB p0
    obtain ⟨vs, ho, hs⟩ := H.out.sure
    obtain ⟨sg, rfl⟩ := own_blockG ho (by omega)
    obtain ⟨v, hv⟩ : ∃ v, vs[pos]? = some v := ⟨_, List.getElem?_eq_getElem (by rw [hs.1]; exact hpl)⟩
    have hby := hs.2 pos v bs hv HP.out
    obtain ⟨va, vn, vc, rfl, hsl, hb8, _⟩ := hby.1
    have hn : vn = 64 := by have := hsl.len; omega
    subst hn
    have BW : Below w.heap.size w W := B3.out.trans (hB.mono B3.out.size)
    have s0 : W.cell? ⟨sg, pos, none⟩ = some (.slice va 64 vc) := cell_keep BW (by have := ho.cellAt pos (by omega); rw [this]; exact hv)
    have CW := fun (wx : World) (hx : Sl .u8 wx va 64 vc bs) => hid (clone8_walk va 64 vc bs wx hx (by decide))
    have SL := hid (hsl.below BW)
    have r1 := hid (heap_keep A3'.out.2.1 hB)
    have r2 := hid (heap_keep A3'.out.2.2.1 hB)
    have BWh := hid BW
    have HK := hid hK
    have HD := hid hD
    clear BW hsl hb8 hby hv ho hs hbox q0 p0 p3 q1 t1 t2 t3 t4 hB hK hD A3'
    gi_wp2
    have hmo : Tryd.prog.follows .mixedOrders = true := by kernel_rfl
    rename_i K9 a9
    have A9 := hid a9
    clear a9
    refine Code.wpIn_mono (Q := NormO K9) (fun e a w h => by cases e <;> first | exact h | exact h.elim) ?_
    gi_region_with_o (refine ⟨trivial, ?_⟩; gi_at_call 30; refine (callsIn_wide.2 (CW _ (by first | exact SL.out | exact SL.out.below (Below.refl _ _).drew)).out).mono ?_; rintro e w5 ⟨v5, rfl, o5, b5⟩; have O5 := hid o5; have B5 := hid (show Below W.heap.size W w5 from by first | exact b5 | exact (Below.refl _ _).drew.trans b5); obtain ⟨a5, c5, rfl, _⟩ := Rd.of_owns o5; have x1 : w5.cell? ⟨w.heap.size + 1, 0, none⟩ = some (.slice none 0 0) := gen_cell (j := 0) (row_range (L := [.slice none 0 0]) (heap_keep r1.out B5.out)) rfl; have z1 : w5.frozen? ⟨w.heap.size + 1, 0, none⟩ = false := frozen_of_row _ _ _ _ _ (heap_keep r1.out B5.out); have x2 : w5.cell? ⟨w.heap.size + 1 + 1, 0, none⟩ = some (.int .i64 0) := gen_cell (j := 0) (row_range (L := [.int .i64 0]) (heap_keep r2.out B5.out)) rfl; have z2 : w5.frozen? ⟨w.heap.size + 1 + 1, 0, none⟩ = false := frozen_of_row _ _ _ _ _ (heap_keep r2.out B5.out); clear o5 b5)
    all_goals
      show K9 _ _
      refine A9.out _ _ ?_
      have k5 := heap_keep HK.out B5.out
      have k6 := (KeepsOthers.setCell w5 ⟨w.heap.size + 1, 0, none⟩ (.slice a5 bs.length c5)).same D _ k5 rfl
      have k7 := (KeepsOthers.setCell (w5.setCell ⟨w.heap.size + 1, 0, none⟩ (.slice a5 bs.length c5)) ⟨w.heap.size + 1 + 1, 0, none⟩ (.int .i64 0)).same D _ k6 rfl
      have f7 : Below w.heap.size w ((w5.setCell ⟨w.heap.size + 1, 0, none⟩ (.slice a5 bs.length c5)).setCell ⟨w.heap.size + 1 + 1, 0, none⟩ (.int .i64 0)) :=
        ((BWh.out.trans (B5.out.mono BWh.out.size)).setCell (p := ⟨w.heap.size + 1, 0, none⟩) (by simp) _).setCell (p := ⟨w.heap.size + 1 + 1, 0, none⟩) (by simp; omega) _
      have y1 : ((w5.setCell ⟨w.heap.size + 1, 0, none⟩ (.slice a5 bs.length c5)).setCell ⟨w.heap.size + 1 + 1, 0, none⟩ (.int .i64 0)).cell? ⟨w.heap.size + 1, 0, none⟩ = some (.slice a5 bs.length c5) := by
        have h1 := World.cell?_setCell_same' w5 ⟨w.heap.size + 1, 0, none⟩ (.slice a5 bs.length c5) (by rw [x1]; rfl)
        exact (Keep.far' (Far.set (H := w.heap.size + 1 + 1) (j := 0) (.int .i64 0))).cell h1 (by simp)
      have y2 : ((w5.setCell ⟨w.heap.size + 1, 0, none⟩ (.slice a5 bs.length c5)).setCell ⟨w.heap.size + 1 + 1, 0, none⟩ (.int .i64 0)).cell? ⟨w.heap.size + 1 + 1, 0, none⟩ = some (.int .i64 0) :=
        World.cell?_setCell_same' _ ⟨w.heap.size + 1 + 1, 0, none⟩ (.int .i64 0) (by rw [(Keep.far' (Far.set (H := w.heap.size + 1) (j := 0) (.slice a5 bs.length c5))).cell x2 (by simp)]; rfl)
      have o7 := Far.own (Far.own O5.out (Far.set (H := w.heap.size + 1) (j := 0) (.slice a5 bs.length c5)) (fun e => by have := (O5.out.lt _ e).1; have := (Array.getElem?_eq_some_iff.1 r2.out).1; have e0 : W.drew.heap.size = W.heap.size := rfl; omega)) (Far.set (H := w.heap.size + 1 + 1) (j := 0) (.int .i64 0)) (fun e => by have := (O5.out.lt _ e).1; have := (Array.getElem?_eq_some_iff.1 r2.out).1; have e0 : W.drew.heap.size = W.heap.size := rfl; omega)
      generalize (w5.setCell ⟨w.heap.size + 1, 0, none⟩ (.slice a5 bs.length c5)).setCell ⟨w.heap.size + 1 + 1, 0, none⟩ (.int .i64 0) = w8 at *
      gi_wp2
      refine ⟨by simp, .inl ⟨_, _, rfl, run_takeDeferred k7, ?_⟩⟩
      have hc1 := cell_kept y1 (grownBy_putObj' _ D (.deferred none)) (fun r e => by cases e; exact ⟨_, k7, rfl⟩)
      have hc2 := cell_kept y2 (grownBy_putObj' _ D (.deferred none)) (fun r e => by cases e; exact ⟨_, k7, rfl⟩)
      have kd : Keep (fun i => i = D) w8 (w8.putObj D (.deferred none)) := Keep.grown (grownBy_putObj' w8 D _) (fun i hi => by cases hi; rfl)
      have hDw : w.heap.size ≤ D := by have h1 := HD.out; have := B3.out.size; simp at h1; omega
      refine ⟨.tuple #[.slice a5 bs.length c5, .int .i64 0], ?_, .slice a5 bs.length c5, rfl, ?_, f7.trans (kd.below (fun i hi => by rw [hi]; exact hDw) f7.size)⟩
      · simp [results, Tryd.f44, go_sem, hc1, hc2]
      · refine kd.own (own_mono o7 BWh.out.size) (fun g hg e => ?_)
        obtain ⟨cur, hc⟩ := own_obj o7 hg
        rw [e, k7] at hc
        cases hc
end Go.Proofs.YtllckpcggmfmkaaDoor

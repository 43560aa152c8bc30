/- A table that holds one quote; the chapter's head. -/
import Derived.Test.YtibjkpejbihcpaaTabC
namespace Go.Proofs.Ytibjkpejbihcpaa
open Go.RowKit

def M1 (x : List Nat) (q : Quo) : QM := updM (fun _ => none) x q
theorem M1_at (x : List Nat) (q : Quo) : M1 x q x = some q := by simp [M1, updM]
theorem M1_upd (x : List Nat) (q q' : Quo) : updM (M1 x q) x q' = M1 x q' := by
  funext y
  unfold M1 updM
  by_cases h : y = x
  · simp [h]
  · simp [h]
/-- on the way: a table with one quote, its number in a variable, nothing below changed -/
structure Rung (w0 : World) (tb mb : Nat) (x : List Nat) (q : Quo) (K : Nat) (w : World) : Prop where
  tab : TabAt w tb mb (M1 x q) 1
  key : w.rangeAt K 0 (nums .u8 x)
  bel : Below w0.heap.size w0 w
  far : K ≠ mb
  low : w0.heap.size ≤ mb
def RungRes (w0 : World) (tb mb : Nat) (x : List Nat) (q : Quo) (K : Nat) (k : Nat) (e : Ending) (w : World) : Prop := e = .returned (.int .i64 (k : Int)) ∧ Rung w0 tb mb x q K w
def nextQ (q : Quo) (r : Quo × Nat) : Quo := if r.2 = 0 then r.1 else q
theorem Rung.go {w0 w w' : World} {tb mb K k : Nat} {x : List Nat} {q q' : Quo} {e : Ending} {r : Quo × Nat} (h : Rung w0 tb mb x q K w) (t : TRes w tb mb (resM (M1 x q) x r) 1 r.2 e w') (hk : r.2 = k) (hq : nextQ q r = q') : RungRes w0 tb mb x q' K k e w' := by
  obtain ⟨he, ht, hf⟩ := t
  subst hk hq
  refine ⟨he, ?_, range_far hf h.key h.far, h.bel.trans (hf.below h.low h.bel.size), h.far, h.low⟩
  unfold nextQ
  unfold resM at ht
  split
  · rename_i h0; rw [if_pos h0, M1_upd] at ht; exact ht
  · rename_i h0; rw [if_neg h0] at ht; exact ht
theorem Rung.below {w0 w w' : World} {tb mb K : Nat} {x : List Nat} {q : Quo} (h : Rung w0 tb mb x q K w) (b : Below w.heap.size w w') : Rung w0 tb mb x q K w' :=
  ⟨h.tab.below b, range_keep b h.key, bstep h.bel b, h.far, h.low⟩
theorem rung_sell {w0 w : World} {tb mb K k : Nat} {x : List Nat} {q q' : Quo} (h : Rung w0 tb mb x q K w) (hx : EH.ok x) (ht : Int) (u c : Nat) (hu : u < 18446744073709551616) (hc : c < 18446744073709551616)
    (hk : (useS (some q) false ht u (fun rc ru => payB u rc c ru)).2 = k) (hq : nextQ q (useS (some q) false ht u (fun rc ru => payB u rc c ru)) = q') :
    Calls Try.prog 13 #[.pointer (some ⟨tb, 0, none⟩), .agg (nums .u8 x).toArray, .int .i64 ht, .int .u64 u, .int .u64 c] w (RungRes w0 tb mb x q' K k) := by
  refine (tsell_walk tb mb 1 (M1 x q) x hx ht u c hu hc w h.tab).mono ?_
  intro e w' t
  rw [M1_at] at t
  exact h.go t hk hq
theorem rung_buy {w0 w : World} {tb mb K k : Nat} {x : List Nat} {q q' : Quo} (h : Rung w0 tb mb x q K w) (hx : EH.ok x) (ht : Int) (u c : Nat) (hu : u < 18446744073709551616) (hc : c < 18446744073709551616)
    (hk : (useS (some q) true ht u (fun rc ru => payB c ru u rc)).2 = k) (hq : nextQ q (useS (some q) true ht u (fun rc ru => payB c ru u rc)) = q') :
    Calls Try.prog 23 #[.pointer (some ⟨tb, 0, none⟩), .agg (nums .u8 x).toArray, .int .i64 ht, .int .u64 u, .int .u64 c] w (RungRes w0 tb mb x q' K k) := by
  refine (tbuy_walk tb mb 1 (M1 x q) x hx ht u c hu hc w h.tab).mono ?_
  intro e w' t
  rw [M1_at] at t
  exact h.go t hk hq
theorem rung_acc {w0 w : World} {tb mb K k : Nat} {x : List Nat} {q q' : Quo} (h : Rung w0 tb mb x q K w) (hx : EH.ok x) (rc ru : Nat) (til : Int) (hc : rc < 18446744073709551616) (hu : ru < 18446744073709551616) (htil : (Lit.int .i64 til).wf = true)
    (hk : (accS (some q) rc ru til).2 = k) (hq : nextQ q (accS (some q) rc ru til) = q') :
    Calls Try.prog 11 #[.pointer (some ⟨tb, 0, none⟩), .agg (nums .u8 x).toArray, rateV rc ru, .int .i64 til] w (RungRes w0 tb mb x q' K k) := by
  refine (acc_walk tb mb 1 (M1 x q) x hx rc ru hc hu til htil w h.tab).mono ?_
  intro e w' t
  rw [M1_at] at t
  exact h.go t hk hq
theorem rung_undo {w0 w : World} {tb mb K k : Nat} {x : List Nat} {q q' : Quo} (h : Rung w0 tb mb x q K w) (hx : EH.ok x) (u : Nat) (hu : u < 18446744073709551616)
    (hk : (undoS (some q) u).2 = k) (hq : nextQ q (undoS (some q) u) = q') :
    Calls Try.prog 20 #[.pointer (some ⟨tb, 0, none⟩), .agg (nums .u8 x).toArray, .int .u64 u] w (RungRes w0 tb mb x q' K k) := by
  refine (undo_walk tb mb 1 (M1 x q) x hx u hu w h.tab).mono ?_
  intro e w' t
  rw [M1_at] at t
  exact h.go t hk hq
theorem rung_rej {w0 w : World} {tb mb K k : Nat} {x : List Nat} {q q' : Quo} (h : Rung w0 tb mb x q K w) (hx : EH.ok x)
    (hk : (rejS (some q)).2 = k) (hq : nextQ q (rejS (some q)) = q') :
    Calls Try.prog 21 #[.pointer (some ⟨tb, 0, none⟩), .agg (nums .u8 x).toArray] w (RungRes w0 tb mb x q' K k) := by
  refine (rej_walk tb mb 1 (M1 x q) x hx w h.tab).mono ?_
  intro e w' t
  rw [M1_at] at t
  exact h.go t hk hq
/-- a fresh table -/
structure Bare (w0 : World) (tb mb : Nat) (x : List Nat) (K : Nat) (w : World) : Prop where
  tab : TabAt w tb mb (fun _ => none) 0
  key : w.rangeAt K 0 (nums .u8 x)
  bel : Below w0.heap.size w0 w
  far : K ≠ mb
  low : w0.heap.size ≤ mb
theorem bare_ask {w0 w : World} {tb mb K : Nat} {x id : List Nat} (h : Bare w0 tb mb x K w) (hx : EH.ok x) (hi : EH.ok id) (buy : Bool) (most : Nat) (hm : most < 18446744073709551616) (hm0 : most ≠ 0) (hi0 : id ≠ hz32) :
    Calls Try.prog 10 #[.pointer (some ⟨tb, 0, none⟩), .agg (nums .u8 x).toArray, .agg (nums .u8 id).toArray, .bool buy, .int .u64 most] w (RungRes w0 tb mb x (askQ x id buy most) K 0) := by
  refine (ask_walk tb mb 0 (fun _ => none) x id hx hi buy most hm w h.tab).mono ?_
  intro e w' t
  have hc : askC (fun _ => none) 0 x id most = 0 := by
    unfold askC
    rw [if_neg (by intro h; rcases h with h | h; exact hm0 h; exact hi0 h)]
    rfl
  unfold askM askN at t
  rw [hc, if_pos rfl, if_pos rfl] at t
  obtain ⟨he, ht, hf⟩ := t
  exact ⟨he, ht, range_far hf h.key h.far, h.bel.trans (hf.below h.low h.bel.size), h.far, h.low⟩
def h1x : List Nat := [1, 0, 0, 0, 0, 0, 0, 0, 0, 0, 0, 0, 0, 0, 0, 0, 0, 0, 0, 0, 0, 0, 0, 0, 0, 0, 0, 0, 0, 0, 0, 0]
def h9x : List Nat := [9, 0, 0, 0, 0, 0, 0, 0, 0, 0, 0, 0, 0, 0, 0, 0, 0, 0, 0, 0, 0, 0, 0, 0, 0, 0, 0, 0, 0, 0, 0, 0]
theorem h1_ok : EH.ok h1x := ⟨rfl, by decide⟩
theorem h9_ok : EH.ok h9x := ⟨rfl, by decide⟩
theorem h9_ne : h9x ≠ hz32 := by decide
theorem bare_new {w0 w w' : World} {tb mb : Nat} {z : Array Value} (hb : Below w0.heap.size w0 w) (t : TabAt w tb mb (fun _ => none) 0) (hl : w0.heap.size ≤ mb)
    (hw : w' = (w.alloc (.cells z 30)).setRow w.heap.size (nums .u8 h1x).toArray) : Bare w0 tb mb h1x w.heap.size w' := by
  have L := laid w z (nums .u8 h1x).toArray 30
  rw [← hw] at L
  exact ⟨t.below L.2, row_range L.1, bstep hb L.2, by have := t.map.lt; omega, hl⟩
def hq0 : Quo := askQ h1x h9x false 100
def hq1 : Quo := { hq0 with st := 1, rc := 3, ru := 2, til := 50 }
def hq2 : Quo := { hq1 with used := 50 }
set_option maxRecDepth 100000 in
set_option maxHeartbeats 2000000 in
theorem thead_walk (w : World) : Calls Try.prog 8 #[] w (fun e w' => e = .returned (.bool true) ∧ Below w.heap.size w w') := by
  have un := Try.underlying30
  have hiH : (Try.prog.info? 30).map (·.size) = some (nums .u8 h1x).length := by kernel_rfl
  have hiA : (Try.prog.info? 30).map (·.size) = some (nums .u8 h1x).toArray.size := by kernel_rfl
  have h1o := hid (all_oneCell_toArray (nums_oneCell .u8 h1x))
  go_enter Try.func8, Try.ntmps8
  go_wp2_with (fail)
  refine (tnew_walk w).mono ?_
  rintro e w1 ⟨tb, mb, rfl, t1, l1, l2, b1⟩
  have T1 := hid t1
  have L2 := hid l2
  have B1 := hid b1
  clear t1 l1 l2 b1
  go_upto_region 3 with (refine wpList_store_row rfl _ _ _ rfl w1.heap.size (nums .u8 h1x).toArray rfl rfl _ _ (heap_alloc_new w1 _) hiA rfl h1o.out ?_)
  have R0 := fun z => hid (bare_new (z := z) B1.out T1.out L2.out rfl)
  generalize hK : w1.heap.size = K at *
  generalize hW : World.setRow _ K _ = w2
  replace R0 := hid (hW ▸ (R0 _).out : Bare w tb mb h1x K w2)
  clear hW hK B1 T1 L2
  have f := R0.out.key
  go_wp2_with (first | refine wpList_load_mid rfl _ _ rfl K 0 rfl (nums .u8 h1x) _ f un rfl hiH ?_ | refine wpList_load_midG rfl _ _ rfl K 0 rfl (nums .u8 h1x) _ f un rfl hiH ?_)
  refine (bare_ask (id := h9x) R0.out h1_ok h9_ok false 100 (by decide) (by decide) h9_ne).mono ?_
  rintro e w3 ⟨rfl, r⟩
  have R1 := hid r
  clear R0 r f
  have f := R1.out.key
  go_wp2_with (first | refine wpList_load_mid rfl _ _ rfl K 0 rfl (nums .u8 h1x) _ f un rfl hiH ?_ | refine wpList_load_midG rfl _ _ rfl K 0 rfl (nums .u8 h1x) _ f un rfl hiH ?_)
  refine (rung_acc (q' := hq1) (k := 0) R1.out h1_ok 3 2 50 (by decide) (by decide) (by decide) rfl rfl).mono ?_
  rintro e w4 ⟨rfl, r⟩
  have R2 := hid r
  clear R1 r f
  have f := R2.out.key
  go_wp2_with (first | refine wpList_load_mid rfl _ _ rfl K 0 rfl (nums .u8 h1x) _ f un rfl hiH ?_ | refine wpList_load_midG rfl _ _ rfl K 0 rfl (nums .u8 h1x) _ f un rfl hiH ?_)
  refine (rung_sell (q' := hq1) (k := 60) R2.out h1_ok 50 50 76 (by decide) (by decide) (by decide) rfl).mono ?_
  rintro e w5 ⟨rfl, r⟩
  have R3 := hid r
  clear R2 r f
  have f := R3.out.key
  go_wp2_with (first | refine wpList_load_mid rfl _ _ rfl K 0 rfl (nums .u8 h1x) _ f un rfl hiH ?_ | refine wpList_load_midG rfl _ _ rfl K 0 rfl (nums .u8 h1x) _ f un rfl hiH ?_)
  refine (rung_sell (q' := hq2) (k := 0) R3.out h1_ok 50 50 75 (by decide) (by decide) (by decide) rfl).mono ?_
  rintro e w6 ⟨rfl, r⟩
  have R4 := hid r
  clear R3 r f
  have f := R4.out.key
  go_wp2_with (first | refine wpList_load_mid rfl _ _ rfl K 0 rfl (nums .u8 h1x) _ f un rfl hiH ?_ | refine wpList_load_midG rfl _ _ rfl K 0 rfl (nums .u8 h1x) _ f un rfl hiH ?_)
  refine (rung_sell (q' := hq2) (k := 51) R4.out h1_ok 50 51 1 (by decide) (by decide) (by decide) rfl).mono ?_
  rintro e w7 ⟨rfl, r⟩
  have R5 := hid r
  clear R4 r f
  have f := R5.out.key
  go_wp2_with (first | refine wpList_load_mid rfl _ _ rfl K 0 rfl (nums .u8 h1x) _ f un rfl hiH ?_ | refine wpList_load_midG rfl _ _ rfl K 0 rfl (nums .u8 h1x) _ f un rfl hiH ?_)
  refine (rung_sell (q' := hq2) (k := 33) R5.out h1_ok 51 1 1 (by decide) (by decide) (by decide) rfl).mono ?_
  rintro e w8 ⟨rfl, r⟩
  have R6 := hid r
  clear R5 r f
  go_wp2
  go_ret
  exact ⟨rfl, R6.out.bel⟩
end Go.Proofs.Ytibjkpejbihcpaa

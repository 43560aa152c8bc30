/- edge's New and All. -/
import Derived.Test.YthccjefhlmngbaaDoorEg1
import Derived.Lib.SliceRun
import Derived.Test.YthccjefhlmngbaaDoorHn
import Derived.Test.YthccjefhlmngbaaDoorSum1
namespace Go.Proofs.YthccjefhlmngbaaDoor
open Go.RowKit

theorem enew_walk (dl : Int) (h1 : 0 ≤ dl) (h2 : dl ≤ 1073741824) (tb mb n : Nat) (M : QM) (w : World) (h : TabAt w tb mb M n) :
    Calls Tryd.prog 10 #[.int .i64 dl, .pointer (some ⟨tb, 0, none⟩)] w fun e w' => e = .returned (.tuple #[.pointer (some ⟨w.heap.size, 0, none⟩), .int .i64 0]) ∧ Shop w' w.heap.size tb mb dl w'.heap.size (.slice none 0 0) [] M n ∧ Below w.heap.size w w' ∧ w'.heap.size = w.heap.size + 1 := by
  have t1 : decide (dl < 0) = false := decide_eq_false (by omega)
  have t2 : decide (dl > 1073741824) = false := decide_eq_false (by omega)
  have t3 : decide (1073741824 < dl) = false := decide_eq_false (by omega)
  have hc := heap_alloc_new w (.cells #[.int .i64 dl, .pointer (some ⟨tb, 0, none⟩), .slice none 0 0] 77)
  have hb := (Below.refl w.heap.size w).alloc (Nat.le_refl _) (.cells #[.int .i64 dl, .pointer (some ⟨tb, 0, none⟩), .slice none 0 0] 77)
  have htl := World.block_lt_of_cell? w _ h.cell
  have hml := h.map.lt
  have S := hid (show Shop (w.alloc (.cells #[.int .i64 dl, .pointer (some ⟨tb, 0, none⟩), .slice none 0 0] 77)) w.heap.size tb mb dl (w.alloc (.cells #[.int .i64 dl, .pointer (some ⟨tb, 0, none⟩), .slice none 0 0] 77)).heap.size (.slice none 0 0) [] M n from
    ⟨⟨hc, World.ownsRow_nil _ _ _ _, by simp, by simp, by simp⟩, h.below hb, ⟨by have : tb < w.heap.size := htl; omega, by omega⟩, by have : tb < w.heap.size := htl; simp; omega, by simp; omega, Nat.le_refl _⟩)
  have HB := hid hb
  clear hc hb h htl hml h1 h2
  go_enter Tryd.func10, Tryd.ntmps10
  go_wp2
  go_ret2
  exact ⟨rfl, S.out, HB.out, by simp⟩
theorem enew_bad (dl : Int) (h : dl < 0 ∨ 1073741824 < dl) (tb : Nat) (w : World) :
    Calls Tryd.prog 10 #[.int .i64 dl, .pointer (some ⟨tb, 0, none⟩)] w fun e w' => e = .returned (.tuple #[.pointer none, .int .i64 1]) ∧ w' = w := by
  by_cases h0 : dl < 0
  · have t1 : decide (dl < 0) = true := decide_eq_true h0
    clear h
    go_enter Tryd.func10, Tryd.ntmps10
    go_wp2
    go_ret2
    exact ⟨rfl, rfl⟩
  · have t1 : decide (dl < 0) = false := decide_eq_false h0
    have t2 : decide (dl > 1073741824) = true := decide_eq_true (by omega)
    have t3 : decide (1073741824 < dl) = true := decide_eq_true (by omega)
    clear h h0
    go_enter Tryd.func10, Tryd.ntmps10
    go_wp2
    go_ret2
    exact ⟨rfl, rfl⟩
theorem enew_nil (dl : Int) (w : World) : Calls Tryd.prog 10 #[.int .i64 dl, .pointer none] w fun e w' => e = .returned (.tuple #[.pointer none, .int .i64 1]) ∧ w' = w := by
  go_enter Tryd.func10, Tryd.ntmps10
  go_wp2
  go_ret2
  exact ⟨rfl, rfl⟩
theorem tyFs' : SliceTy Tryd.prog 51 62 204 288 (.agg zF) := .mk' Tryd.underlying51 (by kernel_rfl) (by show zF.size = 204; exact zF_size) (by decide)
/-- a copy of a row: the cells are there again -/
def CloneRes (w : World) (n : Nat) (L : List Fw) (e : Ending) (w' : World) : Prop := ∃ a c, e = .returned (.slice a n c) ∧ (Fwds w' a n c L ∧ ∀ g, (Value.slice a n c).ownBlock = some g → w.heap.size ≤ g) ∧ Below w.heap.size w w'
set_option maxRecDepth 100000 in
set_option maxHeartbeats 2000000 in
theorem clone_walk (a : Option Addr) (n c : Nat) (L : List Fw) (w : World) (h : Fwds w a n c L) (hn : n ≤ 256) : Calls Tryd.prog 30 #[.slice a n c] w (CloneRes w n L) := by
  have H := hid h
  have hn0' : ∀ (a : Option Addr) (n c : Nat) (w : World), (binOp .eql 51 (.slice a n c) (.slice none 0 0)).run Tryd.prog w = .ok (.bool a.isNone) w := fun a n c w => Go.Lib.run_eql_slice_nil w _ _ a n c 0 0 Tryd.underlying51
  cases a with
  | none =>
    have hc : c = 0 := h.2.1.2.2.2.1 rfl
    have hn0 : n = 0 := by have := h.2.1.2.1; omega
    subst hc
    subst hn0
    clear h
    go_enter Tryd.func30, Tryd.ntmps30
    go_wp2
    go_ret
    exact ⟨none, 0, rfl, ⟨H.out, fun g hg => nomatch hg⟩, Below.refl _ _⟩
  | some ad =>
    have made := World.ownsRow_made w #[] 0 (base := w.heap.size) (e := 62) (size := 204) (Nat.le_refl _) (by simp) (by simp)
    have mb0 := (Below.refl w.heap.size w).alloc (Nat.le_refl _) (.cells #[] 62)
    have h1 := h.below mb0
    have one : ∀ u ∈ L.flatMap Fw.cells, u.oneCell' = true := fun u hu => by
      obtain ⟨f, _, hf⟩ := List.mem_flatMap.1 hu
      exact Fw.one f u hf
    have MD := hid made
    have M0 := hid mb0
    have RD := hid h1.2.1
    have ONE := hid one
    clear made mb0 h1 one h
    go_enter Tryd.func30, Tryd.ntmps30
    go_wp2_with (at_builtin; refine wpList_cat rfl _ _ 51 rfl tyFs' w.heap.size MD.out rfl rfl RD.out ONE.out (by omega) (by unfold maxLen; omega) (by simp) ?_; intro v5 w5 own5 b5 hs5 _; have own6 := own5.lt; obtain ⟨a5, c5, rfl, hr5⟩ := Rd.of_owns own5; have O5 := hid own6; have R5 := hid hr5; have B5 := hid b5; clear own5 b5 hs5 hr5)
    go_ret
    exact ⟨a5, c5, rfl, ⟨⟨H.out.1, by simpa using R5.out, H.out.2.2⟩, fun g hg => (O5.out g (by simpa using hg)).1⟩, M0.out.trans B5.out⟩
theorem eall_walk (eb tb B : Nat) (dl : Int) (v : Value) (L : List Fw) (w : World) (h : EdgeAt w eb tb dl B v L) : Calls Tryd.prog 15 #[.pointer (some ⟨eb, 0, none⟩)] w (CloneRes w L.length L) := by
  obtain ⟨a, c, rfl, hF⟩ := h.fwds
  have HF := hid hF
  have few := h.few
  have e2 := gen_cell (j := 2) (row_range (L := [.int .i64 dl, .pointer (some ⟨tb, 0, none⟩), .slice a L.length c]) h.cell) rfl
  clear h hF
  go_enter Tryd.func15, Tryd.ntmps15
  go_wp2_with (fail)
  refine (clone_walk a L.length c L w HF.out few).mono ?_
  rintro e w2 ⟨a2, c2, rfl, hf2, b2⟩
  have F2 := hid hf2
  have B2 := hid b2
  clear hf2 b2
  go_wp2
  go_ret
  exact ⟨a2, c2, rfl, F2.out, B2.out⟩
theorem eall_nil (w : World) : Calls Tryd.prog 15 #[.pointer none] w fun e w' => e = .returned (.slice none 0 0) ∧ w' = w := by
  go_enter Tryd.func15, Tryd.ntmps15
  go_wp2
  go_ret
  exact ⟨rfl, rfl⟩
end Go.Proofs.YthccjefhlmngbaaDoor

/- edge's GivenBack. -/
namespace Go.Proofs.YthccjefhlmngbaaDoor
open Go.RowKit

theorem Fw.setSt {f : Fw} (h : f.ok) (s : Int) : f.cells.set 203 (.int .i64 s) = Fw.cells { f with st := s } := by
  have e : ∀ m : Int, Fw.cells { f with st := m } = (f.inn.cells ++ f.out.cells ++ nums .u8 f.qt ++ [Value.int .u64 (f.units : Int)] ++ nums .u8 f.sec) ++ [Value.int .i64 m] := fun m => by simp [Fw.cells, Fw.tail]
  have e0 := e f.st
  have hl : (f.inn.cells ++ f.out.cells ++ nums .u8 f.qt ++ [Value.int .u64 (f.units : Int)] ++ nums .u8 f.sec).length = 203 := by simp [Lg.len h.i, Lg.len h.o, h.ql, h.sl]
  rw [show f.cells = Fw.cells { f with st := f.st } from rfl, e0, e s, List.set_append_right _ _ (by omega), hl]
  rfl
theorem fwset {L : List Fw} (hok : ∀ q ∈ L, q.ok) {j k : Nat} {q q' : Fw} {v : Value} (hj : L[j]? = some q) (hk : k < 204) (hc : q'.cells = q.cells.set k v) : (L.flatMap Fw.cells).set (j * 204 + k) v = (L.set j q').flatMap Fw.cells := by
  induction L generalizing j with
  | nil => simp at hj
  | cons p r ih =>
    have hp := Fw.len (hok p (by simp))
    cases j with
    | zero =>
      simp only [List.getElem?_cons_zero, Option.some.injEq] at hj
      subst hj
      rw [List.set_cons_zero, List.flatMap_cons, List.flatMap_cons, Nat.zero_mul, Nat.zero_add, List.set_append_left _ _ (by omega), hc]
    | succ j =>
      simp only [List.getElem?_cons_succ] at hj
      rw [List.set_cons_succ, List.flatMap_cons, List.flatMap_cons, List.set_append_right _ _ (by rw [hp, Nat.add_mul]; omega), hp, show (j + 1) * 204 + k - 204 = j * 204 + k by rw [Nat.add_mul]; omega, ih (fun x hx => hok x (List.mem_cons_of_mem _ hx)) hj]
theorem own_sl {w : World} {B : Nat} {e : TypeId} {size : Nat} {v : Value} {n : Nat} {xs : List Value} (h : w.ownsRow B e size v n xs) (hn : 0 < n) : ∃ g c, v = .slice (some ⟨g, 0, none⟩) n c := by
  rcases h.2 with ⟨rfl, rfl⟩ | ⟨g, cap, cur, rfl, _⟩
  · omega
  · exact ⟨g, cap, rfl⟩
theorem own_fw {w : World} {B g n c : Nat} {L : List Fw} (h : w.ownsRow B 62 204 (.slice (some ⟨g, 0, none⟩) n c) n (L.flatMap Fw.cells)) (hok : ∀ q ∈ L, q.ok) {j : Nat} {q : Fw} (hj : L[j]? = some q) : w.rangeAt g (j * 204) q.cells := by
  have hl := h.1
  rw [fwlen hok] at hl
  have R : w.rangeAt g 0 (L.flatMap Fw.cells) := fun k v hv => by
    have hkl := (List.getElem?_eq_some_iff.1 hv).1
    rw [fwlen hok] at hkl
    rw [Nat.zero_add, h.cellAt k (by omega)]
    exact hv
  have := (fwat hok hj).rng R
  rwa [Nat.zero_add] at this
/-- the first forward with such a leg; or none -/
def FirstF (L : List Fw) (p : Fw → Bool) (j : Nat) (f : Fw) : Prop := L[j]? = some f ∧ p f = true ∧ ∀ m g, m < j → L[m]? = some g → p g = false
def GivC (L : List Fw) (M : QM) (line no : Int) (lg : Lg) (k : Nat) (L' : List Fw) (M' : QM) : Prop :=
  ((∀ f ∈ L, hitF line no true f = false) ∧ lg = lz ∧ k = 5 ∧ L' = L ∧ M' = M) ∨ ∃ j f, FirstF L (hitF line no true) j f ∧
    ((f.st ≠ 0 ∧ lg = lz ∧ k = 52 ∧ L' = L ∧ M' = M) ∨ (f.st = 0 ∧ lg = f.inn ∧ k = 0 ∧ L' = L.set j { f with st := 2 } ∧ M' = resM M f.qt (undoS (M f.qt) f.units)))
def LegRes (C : Lg → Nat → List Fw → QM → Prop) (w : World) (eb tb mb : Nat) (dl : Int) (B : Nat) (v : Value) (n : Nat) (e : Ending) (w' : World) : Prop :=
  ∃ (lg : Lg) (k : Nat) (L' : List Fw) (M' : QM), e = .returned (.tuple #[.agg lg.cells.toArray, .int .i64 (k : Int)]) ∧ Shop w' eb tb mb dl B v L' M' n ∧ Keep (ShopS eb mb v) w w' ∧ C lg k L' M' ∧ lg.ok
set_option maxRecDepth 100000 in
set_option maxHeartbeats 8000000 in
theorem given_walk (eb tb mb : Nat) (dl : Int) (B : Nat) (v : Value) (L : List Fw) (M : QM) (n : Nat) (line no : Int) (w : World) (hS : Shop w eb tb mb dl B v L M n) :
    Calls Tryd.prog 13 #[.pointer (some ⟨eb, 0, none⟩), .int .i64 line, .int .i64 no] w (LegRes (GivC L M line no) w eb tb mb dl B v n) := by
  have HS := hid hS
  have ZL := zeroL
  have hneL := zL_ne
  have A1 := hid (heap_alloc_new w (.cells zL 42))
  have B1 := hid ((Below.refl w.heap.size w).alloc (Nat.le_refl _) (.cells zL 42))
  have unL := Tryd.underlying42
  have un := Tryd.underlying27
  have hzi := hid (show (Tryd.prog.info? 42).map (·.size) = some zL.size by rw [zL_size]; exact infoL)
  have hzo := hid (show zL.all (·.oneCell') = true from all_oneCell_toArray (Lg.one lz))
  clear hS
  go_enter Tryd.func13, Tryd.ntmps13
  go_upto_region 1 with (fail)
  show Code.wp _ _ _ _ (w.alloc (.cells zL 42))
  generalize w.alloc (.cells zL 42) = w1 at *
  obtain ⟨R, hR⟩ : ∃ R, R = w.heap.size := ⟨_, rfl⟩
  rw [← hR] at A1 ⊢
  have HR := hid hR
  have HS1 := hid (HS.out.below B1.out)
  clear hR
  go_wp2_with (fail)
  refine (find_walk eb tb B dl v L line no true w1 HS1.out.e).mono ?_
  rintro e w2 ⟨r, rfl, hi, b2⟩
  have HI := hid hi
  have B2 := hid (bstep B1.out b2)
  have HS2 := hid (HS1.out.below b2)
  have A2 := hid (heap_keep A1.out b2)
  clear hi b2 A1 B1 HS1
  have A2' := A2.out
  rcases HI.out with ⟨rfl, hno⟩ | ⟨j, f, rfl, hj, hp, hfst⟩
  · have HN := hid hno
    clear hno
    go_wp2_with (refine wpList_store_row rfl _ _ _ rfl R zL rfl rfl _ _ A2' hzi.out rfl hzo.out ?_)
    have q1 := setRow_heap w2 R _ zL _ _ A2'
    refine bodyPost_ret (results_cell_tmp rfl _ _ R _ zL _ _ _ rfl rfl q1 Tryd.underlying42 rfl hzi.out) rfl ?_
    have fr := far_row w2 R zL
    have hge : ∀ g, v.ownBlock = some g → g ≠ R := fun g hg => by have := (HS.out.e.own.lt g hg).2; rw [HR.out]; omega
    refine ⟨lz, 5, L, M, rfl, HS2.out.fresh fr (by rw [HR.out]; exact HS.out.lt.2.2) hge, Keep.of (B2.out.trans (fr.below (by rw [HR.out]; exact Nat.le_refl _) B2.out.size)), .inl ⟨HN.out, rfl, rfl, rfl, rfl⟩, lz_ok⟩
  · have t1 : decide (((j : Nat) : Int) < 0) = false := decide_eq_false (by omega)
    have FF := hid (show FirstF L (hitF line no true) j f from ⟨hj, hp, hfst⟩)
    have fok := hid (HS.out.e.ok f (List.mem_of_getElem? hj))
    have hjl : j < L.length := (List.getElem?_eq_some_iff.1 hj).1
    obtain ⟨g, c, rfl⟩ := own_sl HS2.out.e.own (by omega)
    have t2 : decide (j < L.length) = true := decide_eq_true hjl
    have few := HS.out.e.few
    have d2 : w2.cell? ⟨eb, 2, none⟩ = some (.slice (some ⟨g, 0, none⟩) L.length c) := gen_cell (j := 2) (row_range (L := [.int .i64 dl, .pointer (some ⟨tb, 0, none⟩), .slice (some ⟨g, 0, none⟩) L.length c]) HS2.out.e.cell) rfl
    have row := own_fw HS2.out.e.own HS.out.e.ok hj
    have c203 : w2.cell? ⟨g, j * 204 + 203, none⟩ = some (.int .i64 f.st) := (Fw.hasSt fok.out).one row
    have HJ := hid hj
    clear hj hp hfst row
    by_cases hst : f.st = 0
    case neg =>
      have ts : (f.st != 0) = true := by simp [hst]
      have ST := hid hst
      clear hst
      go_wp2_with (refine wpList_store_row rfl _ _ _ rfl R zL rfl rfl _ _ A2' hzi.out rfl hzo.out ?_)
      have q1 := setRow_heap w2 R _ zL _ _ A2'
      refine bodyPost_ret (results_cell_tmp rfl _ _ R _ zL _ _ _ rfl rfl q1 Tryd.underlying42 rfl hzi.out) rfl ?_
      have fr := far_row w2 R zL
      have hge : ∀ g', (Value.slice (some ⟨g, 0, none⟩) L.length c).ownBlock = some g' → g' ≠ R := fun g' hg => by have := (HS.out.e.own.lt g' hg).2; rw [HR.out]; omega
      refine ⟨lz, 52, L, M, rfl, HS2.out.fresh fr (by rw [HR.out]; exact HS.out.lt.2.2) hge, Keep.of (B2.out.trans (fr.below (by rw [HR.out]; exact Nat.le_refl _) B2.out.size)), .inr ⟨j, f, FF.out, .inl ⟨ST.out, rfl, rfl, rfl, rfl⟩⟩, lz_ok⟩
    have ts : (f.st != 0) = false := by simp [hst]
    have z203 := HS2.out.e.own.frozenAt (j * 204 + 203)
    have ST := hid hst
    clear hst
    go_upto_region 10 with (fail)
    obtain ⟨f', hf'⟩ : ∃ f', f' = { f with st := 2 } := ⟨_, rfl⟩
    have F' := hid hf'
    have fok' := hid (show f'.ok from by rw [hf']; exact { fok.out with sw := (show (Lit.int .i64 2).wf = true by decide) })
    have own3 := (HS2.out.e.own.stored (j * 204 + 203) (.int .i64 2)).1
    rw [fwset HS.out.e.ok HJ.out (by decide) (q' := f') (by rw [Fw.setSt fok.out, hf'])] at own3
    have OW3 := hid own3
    have F3 := hid (Far.set (H := g) (j := j * 204 + 203) (w := w2) (.int .i64 2))
    clear own3 z203 c203 hf'
    generalize w2.setCell ⟨g, j * 204 + 203, none⟩ (.int .i64 2) = w3 at *
    have gB := hid ((HS2.out.e.own.lt g rfl).1)
    have gR := hid (show g ≠ R from by have := (HS.out.e.own.lt g rfl).2; rw [HR.out]; omega)
    have ok' : ∀ q ∈ L.set j f', q.ok := fun q hq => by
      rcases List.mem_or_eq_of_mem_set hq with hq | rfl
      · exact HS.out.e.ok q hq
      · exact fok'.out
    have OK' := hid ok'
    have hj' : (L.set j f')[j]? = some f' := List.getElem?_set_self hjl
    have len' := hid (show (L.set j f').length = L.length from List.length_set)
    have HS3 := hid (show Shop w3 eb tb mb dl B (.slice (some ⟨g, 0, none⟩) L.length c) (L.set j f') M n from by
      have k := Keep.far' F3.out
      have gb := gB.out
      have lt := HS2.out.lt
      have el := HS2.out.e.lt
      refine ⟨⟨k.heap HS2.out.e.cell (by omega), by rw [len'.out]; exact OW3.out, OK'.out, by rw [len'.out]; exact HS2.out.e.few, el⟩, HS2.out.t.keep k (by omega) (by omega), HS2.out.ne, lt.1, lt.2.1, Nat.le_trans lt.2.2 k.size⟩)
    have A3 := hid (heap_far A2' F3.out (fun e => gR.out e.symm))
    have row3 := own_fw OW3.out OK'.out hj'
    have q138 := (Fw.hasQt fok'.out).rng row3
    have u170 : w3.cell? ⟨g, j * 204 + 170, none⟩ = some (.int .u64 (f'.units : Int)) := (Fw.hasUnits fok'.out).one row3
    rw [show f'.qt = f.qt by rw [F'.out]] at q138
    rw [show f'.units = f.units by rw [F'.out]] at u170
    have e1 : w3.cell? ⟨eb, 1, none⟩ = some (.pointer (some ⟨tb, 0, none⟩)) := gen_cell (j := 1) (row_range (L := [.int .i64 dl, .pointer (some ⟨tb, 0, none⟩), .slice (some ⟨g, 0, none⟩) L.length c]) HS3.out.e.cell) rfl
    have GM := hid (show g ≠ mb from by have := gB.out; have := HS.out.lt; omega)
    have hqi := hid (show (Tryd.prog.info? 27).map (·.size) = some (nums .u8 f.qt).length by rw [nums_length, fok.out.ql]; exact infoH)
    have T3 := hid HS3.out.t
    have UW := fun wx (hx : TabAt wx tb mb M n) => hid (undo_walk tb mb n M f.qt ⟨fok.out.ql, fok.out.qb⟩ f.units fok.out.ub wx hx)
    have ROW := hid row3
    have BW3 := hid (show w.heap.size ≤ w3.heap.size from Nat.le_trans B2.out.size F3.out.size)
    clear row3 d2 A2' ok' t1 t2 ts hj'
    refine wp_region_held_drew (S := fun w' => Keep (fun i => i = mb) w3 w') (by kernel_rfl) (Keep.of (Below.refl _ _).drew) (fun hHeld => ?_)
    try simp only [List.size_toArray, List.length_cons, List.length_nil, Nat.reduceAdd, Array.replicate_succ, Array.replicate_zero, List.push_toArray, List.nil_append, List.cons_append]
    refine wpAnyH_take (i := 0) (oi := { dst := some 35, op := Op.move (Operand.tmp 0), type := 34, pos := "edge.go:137", after := #[], guard := none }) (v := ?v1001) rfl (by kernel_rfl) (by kernel_rfl) (by kernel_rfl) (fun _ _ _ h => h) (Or.inl ⟨by rfl, ?hy1001⟩) hHeld ?_
    case hy1001 => (intro w hSw; (try dsimp only at hSw); go_simp; (try with_reducible rfl))
    (try simp only [Act.put, List.setIfInBounds_toArray, List.set_cons_zero, List.set_cons_succ])
    refine wpAnyH_take (i := 1) (oi := { dst := some 36, op := Op.nilCheck (Operand.tmp 35), type := 0, pos := "edge.go:137", after := #[{ on := 0, ground := Ground.data }], guard := none }) (v := ?v1002) rfl (by kernel_rfl) (by kernel_rfl) (by kernel_rfl) (fun _ _ _ h => h) (Or.inl ⟨by rfl, ?hy1002⟩) hHeld ?_
    case hy1002 => (intro w hSw; (try dsimp only at hSw); go_simp; (try with_reducible rfl))
    (try simp only [Act.put, List.setIfInBounds_toArray, List.set_cons_zero, List.set_cons_succ])
    refine wpAnyH_take (i := 2) (oi := { dst := some 37, op := Op.fieldAddr 77 (Operand.tmp 36) 1, type := 0, pos := "edge.go:137", after := #[{ on := 1, ground := Ground.data }], guard := none }) (v := ?v1003) rfl (by kernel_rfl) (by kernel_rfl) (by kernel_rfl) (fun _ _ _ h => h) (Or.inl ⟨by rfl, ?hy1003⟩) hHeld ?_
    case hy1003 => (intro w hSw; (try dsimp only at hSw); go_simp; (try with_reducible rfl))
    (try simp only [Act.put, List.setIfInBounds_toArray, List.set_cons_zero, List.set_cons_succ])
    refine wpAnyH_take (i := 3) (oi := { dst := some 38, op := Op.load 24 (Operand.tmp 37), type := 24, pos := "edge.go:137", after := #[{ on := 2, ground := Ground.data }], guard := none }) (v := (.pointer (some ⟨tb, 0, none⟩))) rfl (by kernel_rfl) (by kernel_rfl) (by kernel_rfl) (fun _ _ _ h => h) (Or.inl ⟨by rfl, fun w h => by have c9 := Keep.cell h e1 HS.out.ne.2; go_simp⟩) hHeld ?_
    (try simp only [Act.put, List.setIfInBounds_toArray, List.set_cons_zero, List.set_cons_succ])
    refine wpAnyH_take (i := 4) (oi := { dst := some 39, op := Op.move (Operand.tmp 9), type := 79, pos := "edge.go:137", after := #[], guard := none }) (v := ?v1004) rfl (by kernel_rfl) (by kernel_rfl) (by kernel_rfl) (fun _ _ _ h => h) (Or.inl ⟨by rfl, ?hy1004⟩) hHeld ?_
    case hy1004 => (intro w hSw; (try dsimp only at hSw); go_simp; (try with_reducible rfl))
    (try simp only [Act.put, List.setIfInBounds_toArray, List.set_cons_zero, List.set_cons_succ])
    refine wpAnyH_take (i := 5) (oi := { dst := some 40, op := Op.nilCheck (Operand.tmp 39), type := 0, pos := "edge.go:137", after := #[{ on := 4, ground := Ground.data }], guard := none }) (v := ?v1005) rfl (by kernel_rfl) (by kernel_rfl) (by kernel_rfl) (fun _ _ _ h => h) (Or.inl ⟨by rfl, ?hy1005⟩) hHeld ?_
    case hy1005 => (intro w hSw; (try dsimp only at hSw); go_simp; (try with_reducible rfl))
    (try simp only [Act.put, List.setIfInBounds_toArray, List.set_cons_zero, List.set_cons_succ])
    refine wpAnyH_take (i := 6) (oi := { dst := some 41, op := Op.fieldAddr 62 (Operand.tmp 40) 2, type := 0, pos := "edge.go:137", after := #[{ on := 5, ground := Ground.data }], guard := none }) (v := ?v1006) rfl (by kernel_rfl) (by kernel_rfl) (by kernel_rfl) (fun _ _ _ h => h) (Or.inl ⟨by rfl, ?hy1006⟩) hHeld ?_
    case hy1006 => (intro w hSw; (try dsimp only at hSw); go_simp; (try with_reducible rfl))
    (try simp only [Act.put, List.setIfInBounds_toArray, List.set_cons_zero, List.set_cons_succ])
    refine' wpAnyH_take (i := 7) (oi := { dst := some 42, op := Op.load 27 (Operand.tmp 41), type := 27, pos := "edge.go:137", after := #[{ on := 6, ground := Ground.data }], guard := none }) (v := _) rfl (by kernel_rfl) (by kernel_rfl) (by kernel_rfl) (fun _ _ _ h => h) (yieldsIf_load_mid (by rfl) _ _ rfl g (j * 204 + 138) rfl (nums .u8 f.qt) _ (fun _ h => h.range q138 GM.out) un rfl hqi.out) hHeld ?_
    (try simp only [Act.put, List.setIfInBounds_toArray, List.set_cons_zero, List.set_cons_succ])
    refine wpAnyH_take (i := 8) (oi := { dst := some 43, op := Op.move (Operand.tmp 9), type := 79, pos := "edge.go:137", after := #[], guard := none }) (v := ?v1007) rfl (by kernel_rfl) (by kernel_rfl) (by kernel_rfl) (fun _ _ _ h => h) (Or.inl ⟨by rfl, ?hy1007⟩) hHeld ?_
    case hy1007 => (intro w hSw; (try dsimp only at hSw); go_simp; (try with_reducible rfl))
    (try simp only [Act.put, List.setIfInBounds_toArray, List.set_cons_zero, List.set_cons_succ])
    refine wpAnyH_take (i := 9) (oi := { dst := some 44, op := Op.nilCheck (Operand.tmp 43), type := 0, pos := "edge.go:137", after := #[{ on := 8, ground := Ground.data }], guard := none }) (v := ?v1008) rfl (by kernel_rfl) (by kernel_rfl) (by kernel_rfl) (fun _ _ _ h => h) (Or.inl ⟨by rfl, ?hy1008⟩) hHeld ?_
    case hy1008 => (intro w hSw; (try dsimp only at hSw); go_simp; (try with_reducible rfl))
    (try simp only [Act.put, List.setIfInBounds_toArray, List.set_cons_zero, List.set_cons_succ])
    refine wpAnyH_take (i := 10) (oi := { dst := some 45, op := Op.fieldAddr 62 (Operand.tmp 44) 3, type := 0, pos := "edge.go:137", after := #[{ on := 9, ground := Ground.data }], guard := none }) (v := ?v1009) rfl (by kernel_rfl) (by kernel_rfl) (by kernel_rfl) (fun _ _ _ h => h) (Or.inl ⟨by rfl, ?hy1009⟩) hHeld ?_
    case hy1009 => (intro w hSw; (try dsimp only at hSw); go_simp; (try with_reducible rfl))
    (try simp only [Act.put, List.setIfInBounds_toArray, List.set_cons_zero, List.set_cons_succ])
    refine wpAnyH_take (i := 11) (oi := { dst := some 46, op := Op.load 28 (Operand.tmp 45), type := 28, pos := "edge.go:137", after := #[{ on := 10, ground := Ground.data }], guard := none }) (v := (.int .u64 (f.units : Int))) rfl (by kernel_rfl) (by kernel_rfl) (by kernel_rfl) (fun _ _ _ h => h) (Or.inl ⟨by rfl, fun w h => by have c9 := Keep.cell h u170 GM.out; go_simp⟩) hHeld ?_
    (try simp only [Act.put, List.setIfInBounds_toArray, List.set_cons_zero, List.set_cons_succ])
    refine wpAnyH_ready (rs := [12]) (by kernel_rfl) (by simp) ?_
    refine AllReadyH.cons (o := { dst := some 47, op := Op.call { callee := Callee.value (Operand.func 22), args := #[Operand.tmp 38, Operand.tmp 42, Operand.tmp 46], argTypes := #[24, 27, 28] }, type := 35, pos := "edge.go:137", after := #[{ on := 3, ground := Ground.data }, { on := 7, ground := Ground.data }, { on := 11, ground := Ground.data }], guard := none }) rfl (fun K hK => ?_) ?_
    go_simp; refine (UW _ (T3.out.below (Below.refl _ _).drew)).out.mono ?_; rintro e w4 ⟨rfl, t4, f4⟩; have T4 := hid t4; have F4 := hid f4; clear t4 f4
    refine hK.out _ _ (hHeld.trans (Keep.far F4.out rfl)) (fun hHeld => ?_)
    clear hK K
    (try simp only [List.setIfInBounds_toArray, List.set_cons_zero, List.set_cons_succ])
    refine wpAnyH_done (by kernel_rfl) ?_ _
    rotate_left
    exact AllReadyH.nil
    all_goals
      have row4 := hHeld.range ROW.out GM.out
      have fin4 := (Fw.hasIn f').rng row4
      rw [Nat.add_zero, show f'.inn = f.inn by rw [F'.out]] at fin4
      have A4 := hHeld.heap A3.out (show R ≠ mb from by have := HS.out.lt; rw [HR.out]; omega)
      have hii := hid (infoLl fok.out.i)
      have hai := hid (infoLa fok.out.i)
      have hza := hid (zL_as fok.out.i)
      have hoa := hid (all_oneCell_toArray (Lg.one f.inn))
      have HS4 := hid (HS3.out.tab T4.out (show Far mb w3 _ from (Far.of (Below.refl _ _).drew).trans F4.out))
      have K4 := hid hHeld
      clear hHeld row4 q138 u170 e1 UW
      go_wp2_with (first | with_reducible refine wpList_load_mid rfl _ _ rfl g (j * 204) rfl f.inn.cells _ fin4 unL rfl hii.out ?_ | with_reducible refine wpList_store_row rfl _ _ _ rfl R f.inn.cells.toArray rfl rfl _ _ A4 hai.out hza.out hoa.out ?_)
      have q1 := setRow_heap w4 R _ f.inn.cells.toArray _ _ A4
      refine bodyPost_ret (results_cell_tmp rfl _ _ R _ f.inn.cells.toArray _ _ _ rfl rfl q1 Tryd.underlying42 rfl hai.out) rfl ?_
      have fr := far_row w4 R f.inn.cells.toArray
      have kk : Keep (ShopS eb mb (.slice (some ⟨g, 0, none⟩) L.length c)) w (w4.setRow R f.inn.cells.toArray) :=
        (((Keep.of B2.out).trans (Keep.far F3.out (.inr (.inr rfl)))).trans (K4.out.mono (fun i hi => .inr (.inl hi)))).then (Keep.far' fr) (fun i hi hh => by rw [hh, HR.out] at hi; omega)
      refine ⟨f.inn, 0, L.set j f', _, rfl, HS4.out.fresh fr (by rw [HR.out]; exact HS.out.lt.2.2) (fun g' hg => by cases hg; exact gR.out), kk, .inr ⟨j, f, FF.out, .inr ⟨ST.out, rfl, rfl, by rw [F'.out], rfl⟩⟩, fok.out.i⟩
end Go.Proofs.YthccjefhlmngbaaDoor

/- edge's Settled. -/
namespace Go.Proofs.YthccjefhlmngbaaDoor
open Go.RowKit

/-- cells of a list written anew -/
def setL : List Value → Nat → List Value → List Value
  | xs, _, [] => xs
  | xs, o, v :: r => setL (xs.set o v) (o + 1) r
theorem setL_mid : ∀ (vs P A B : List Value), vs.length = P.length → setL (A ++ (P ++ B)) A.length vs = A ++ (vs ++ B)
  | [], [], _, _, _ => rfl
  | [], _ :: _, _, _, h => by cases h
  | _ :: _, [], _, _, h => by cases h
  | v :: r, p :: q, A, B, h => by
    have h' : r.length = q.length := by simpa using h
    have e : (A ++ (p :: q ++ B)).set A.length v = (A ++ [v]) ++ (q ++ B) := by
      rw [List.set_append_right _ _ (Nat.le_refl _), Nat.sub_self]
      simp
    rw [setL, e, show A.length + 1 = (A ++ [v]).length by simp, setL_mid r q (A ++ [v]) B h']
    simp
theorem own_setCells {B : Nat} {e : TypeId} {size g n c : Nat} : ∀ (vs : List Value) (o : Nat) (w : World) (xs : List Value), w.ownsRow B e size (.slice (some ⟨g, 0, none⟩) n c) n xs → (w.setCells g o vs).ownsRow B e size (.slice (some ⟨g, 0, none⟩) n c) n (setL xs o vs)
  | [], _, _, _, h => h
  | v :: r, o, _, _, h => own_setCells r (o + 1) _ _ (h.stored o v).1
theorem fw_parts {L : List Fw} (hok : ∀ q ∈ L, q.ok) {j : Nat} {f : Fw} (hj : L[j]? = some f) : ∃ A B, A.length = j * 204 ∧ L.flatMap Fw.cells = A ++ (f.cells ++ B) ∧ ∀ f', (L.set j f').flatMap Fw.cells = A ++ (f'.cells ++ B) := by
  induction L generalizing j with
  | nil => simp at hj
  | cons p r ih =>
    cases j with
    | zero =>
      simp only [List.getElem?_cons_zero, Option.some.injEq] at hj
      subst hj
      exact ⟨[], r.flatMap Fw.cells, by simp, by simp, fun f' => by simp⟩
    | succ j =>
      simp only [List.getElem?_cons_succ] at hj
      obtain ⟨A, B, hl, e, hs⟩ := ih (fun x hx => hok x (List.mem_cons_of_mem _ hx)) hj
      refine ⟨p.cells ++ A, B, ?_, by rw [List.flatMap_cons, e, List.append_assoc], fun f' => by rw [List.set_cons_succ, List.flatMap_cons, hs f', List.append_assoc]⟩
      rw [List.length_append, Fw.len (hok p (by simp)), hl, Nat.add_mul]; omega
theorem fw_setSec {L : List Fw} (hok : ∀ q ∈ L, q.ok) {j : Nat} {f : Fw} (hj : L[j]? = some f) {s : List Nat} (hs : s.length = 32) : setL (L.flatMap Fw.cells) (j * 204 + 171) (nums .u8 s) = (L.set j { f with sec := s }).flatMap Fw.cells := by
  obtain ⟨A, B, hl, e, hst⟩ := fw_parts hok hj
  have fok := hok f (List.mem_of_getElem? hj)
  have c : ∀ x : List Nat, Fw.cells { f with sec := x } = (f.inn.cells ++ f.out.cells ++ nums .u8 f.qt ++ [Value.int .u64 (f.units : Int)]) ++ (nums .u8 x ++ [Value.int .i64 f.st]) := fun x => by simp [Fw.cells, Fw.tail]
  have cl : (f.inn.cells ++ f.out.cells ++ nums .u8 f.qt ++ [Value.int .u64 (f.units : Int)]).length = 171 := by simp [Lg.len fok.i, Lg.len fok.o, fok.ql]
  rw [hst, e, show f.cells = Fw.cells { f with sec := f.sec } from rfl, c f.sec, c s]
  have := setL_mid (nums .u8 s) (nums .u8 f.sec) (A ++ (f.inn.cells ++ f.out.cells ++ nums .u8 f.qt ++ [Value.int .u64 (f.units : Int)])) ([Value.int .i64 f.st] ++ B) (by rw [nums_length, nums_length, hs, fok.sl])
  rw [List.length_append, hl, cl] at this
  simpa [List.append_assoc] using this
theorem own_there {w : World} {B : Nat} {e : TypeId} {size g n c : Nat} {xs : List Value} (h : w.ownsRow B e size (.slice (some ⟨g, 0, none⟩) n c) n xs) {o m : Nat} (hm : o + m ≤ n * size) : w.there g o m := fun j hj =>
  ⟨by rw [h.cellAt (o + j) (by omega), List.getElem?_eq_getElem (by have := h.1; omega)]; rfl, h.frozenAt (o + j)⟩
theorem sl_row32 {w : World} {g : Nat} {t : TypeId} {xs : List Nat} (h : w.heap[g]? = some (.cells (nums .u8 xs).toArray t (0, 0))) (hl : xs.length = 32) : Sl .u8 w (some ⟨g, 0, none⟩) 32 32 xs :=
  ⟨by simp [hl], by omega, by unfold maxLen; omega, by simp, g, 0, fun _ => rfl, fun j u hu => by
    rw [Nat.zero_add, cell_of_row _ g _ _ t (0, 0) h, List.getElem?_toArray]
    exact hu⟩
def SetC (L : List Fw) (M : QM) (line no : Int) (sec : List Nat) (lg : Lg) (k : Nat) (L' : List Fw) (M' : QM) : Prop :=
  M' = M ∧ (((∀ f ∈ L, hitF line no true f = false) ∧ lg = lz ∧ k = 5 ∧ L' = L) ∨ ∃ j f, FirstF L (hitF line no true) j f ∧
    ((sha sec ≠ f.out.o.lock ∧ lg = lz ∧ k = 31 ∧ L' = L) ∨ (sha sec = f.out.o.lock ∧ f.st = 2 ∧ lg = lz ∧ k = 52 ∧ L' = L) ∨ (sha sec = f.out.o.lock ∧ f.st ≠ 2 ∧ lg = f.inn ∧ k = 0 ∧ L' = L.set j { f with st := 1, sec := sec })))
set_option maxRecDepth 100000 in
set_option maxHeartbeats 8000000 in
theorem settled_walk (eb tb mb : Nat) (dl : Int) (B : Nat) (v : Value) (L : List Fw) (M : QM) (n : Nat) (line no : Int) (sec : List Nat) (hsec : EH.ok sec) (w : World) (ht : Tabs w) (hS : Shop w eb tb mb dl B v L M n) :
    Calls Tryd.prog 18 #[.pointer (some ⟨eb, 0, none⟩), .int .i64 line, .int .i64 no, .agg (nums .u8 sec).toArray] w (LegRes (SetC L M line no sec) w eb tb mb dl B v n) := by
  have HS := hid hS
  have HT := hid ht
  have SEC := hid hsec
  have ZL := zeroL
  have hneL := zL_ne
  have A2 := alloc2p w (.cells (nums .u8 sec).toArray 27) (.cells zL 42)
  have S1 := hid A2.1
  have A1 := hid A2.2.1
  have B1 := hid A2.2.2.2
  have unL := Tryd.underlying42
  have un := Tryd.underlying27
  have hzi := hid (show (Tryd.prog.info? 42).map (·.size) = some zL.size by rw [zL_size]; exact infoL)
  have hzo := hid (show zL.all (·.oneCell') = true from all_oneCell_toArray (Lg.one lz))
  have hsi := hid (show (Tryd.prog.info? 27).map (·.size) = some (nums .u8 sec).length by rw [nums_length, hsec.1]; exact infoH)
  clear hS ht hsec A2
  go_enter Tryd.func18, Tryd.ntmps18
  go_upto_region 1 with (fail)
  show Code.wp _ _ _ _ ((w.alloc (.cells (nums .u8 sec).toArray 27)).alloc (.cells zL 42))
  generalize (w.alloc (.cells (nums .u8 sec).toArray 27)).alloc (.cells zL 42) = w1 at *
  obtain ⟨R, hR⟩ : ∃ R, R = w.heap.size + 1 := ⟨_, rfl⟩
  rw [← hR] at A1 ⊢
  obtain ⟨K7, hK7⟩ : ∃ K7, K7 = w.heap.size := ⟨_, rfl⟩
  rw [← hK7] at S1 ⊢
  have HR := hid hR
  have HK := hid hK7
  have HS1 := hid (HS.out.below B1.out)
  clear hR hK7
  go_wp2_with (fail)
  refine (find_walk eb tb B dl v L line no true w1 HS1.out.e).mono ?_
  rintro e w2 ⟨r, rfl, hi, b2⟩
  have HI := hid hi
  have B2 := hid (bstep B1.out b2)
  have HS2 := hid (HS1.out.below b2)
  have A2 := hid (heap_keep A1.out b2)
  have S2 := hid (heap_keep S1.out b2)
  have T2 := hid (HT.out.below B2.out)
  clear hi b2 A1 B1 HS1 S1
  have A2' := A2.out
  have hge : Hid (∀ g, v.ownBlock = some g → g ≠ R) := hid (fun g hg => by have := (HS.out.e.own.lt g hg).2; rw [HR.out]; omega)
  rcases HI.out with ⟨rfl, hno⟩ | ⟨j, f, rfl, hj, hp, hfst⟩
  · have HN := hid hno
    clear hno
    go_wp2_with (refine wpList_store_row rfl _ _ _ rfl R zL rfl rfl _ _ A2' hzi.out rfl hzo.out ?_)
    have q1 := setRow_heap w2 R _ zL _ _ A2'
    refine bodyPost_ret (results_cell_tmp rfl _ _ R _ zL _ _ _ rfl rfl q1 Tryd.underlying42 rfl hzi.out) rfl ?_
    have fr := far_row w2 R zL
    refine ⟨lz, 5, L, M, rfl, HS2.out.fresh fr (by rw [HR.out]; exact Nat.le_succ_of_le HS.out.lt.2.2) hge.out, Keep.of (B2.out.trans (fr.below (by rw [HR.out]; exact Nat.le_succ _) B2.out.size)), ⟨rfl, .inl ⟨HN.out, rfl, rfl, rfl⟩⟩, lz_ok⟩
  · have t1 : decide (((j : Nat) : Int) < 0) = false := decide_eq_false (by omega)
    have FF := hid (show FirstF L (hitF line no true) j f from ⟨hj, hp, hfst⟩)
    have fok := hid (HS.out.e.ok f (List.mem_of_getElem? hj))
    have hjl : j < L.length := (List.getElem?_eq_some_iff.1 hj).1
    obtain ⟨g, c, rfl⟩ := own_sl HS2.out.e.own (by omega)
    have t2 : decide (j < L.length) = true := decide_eq_true hjl
    have few := HS.out.e.few
    have d2 : w2.cell? ⟨eb, 2, none⟩ = some (.slice (some ⟨g, 0, none⟩) L.length c) := gen_cell (j := 2) (row_range (L := [.int .i64 dl, .pointer (some ⟨tb, 0, none⟩), .slice (some ⟨g, 0, none⟩) L.length c]) HS2.out.e.cell) rfl
    have row := own_fw HS2.out.e.own HS.out.e.ok hj
    have ROW := hid row
    have q105 : w2.rangeAt g (j * 204 + 105) (nums .u8 f.out.o.lock) := by have := ((Fw.hasOut fok.out).trans ((Lg.hasO f.out).trans (Ofr.hasLock fok.out.o.o))).rng row; exact this
    have hki := hid (show (Tryd.prog.info? 27).map (·.size) = some (nums .u8 f.out.o.lock).length by rw [nums_length, fok.out.o.o.ll]; exact infoH)
    have nq := neq_hv (xs := sha sec) (ys := f.out.o.lock) (sha_len sec) fok.out.o.o.ll (sha_lt sec) fok.out.o.o.lb
    have ng := guard_hv (sha sec) f.out.o.lock
    have SW := fun (G : Nat) (wx : World) (hc : wx.cell? ⟨G, 0, none⟩ = some (.slice (some ⟨K7, 0, none⟩) 32 32)) (hx : Sl .u8 wx (some ⟨K7, 0, none⟩) 32 32 sec) (htx : Tabs wx) => hid (sum1_walk G (some ⟨K7, 0, none⟩) 32 32 sec wx hc hx SEC.out.2 (by decide) htx)
    obtain ⟨sd, hsd⟩ : ∃ sd, sha sec = sd := ⟨_, rfl⟩
    rw [hsd] at nq ng
    unfold SumRes at SW
    rw [hsd] at SW
    have SD := hid hsd
    obtain ⟨bq, hbq⟩ : ∃ bq, decide (sd = f.out.o.lock) = bq := ⟨_, rfl⟩
    rw [hbq] at nq
    have BQ := hid hbq
    unfold hv at nq ng SW
    have SL2 := hid (sl_row32 S2.out SEC.out.1)
    have HJ := hid hj
    clear hj hp hfst row hsd hbq
    go_upto_region 7 with (fail)
    refine wp_region_held_drew (S := fun w' => Below w2.heap.size w2 w') (by kernel_rfl) ((Below.refl _ _).drew) (fun hHeld => ?_)
    try simp only [List.size_toArray, List.length_cons, List.length_nil, Nat.reduceAdd, Array.replicate_succ, Array.replicate_zero, List.push_toArray, List.nil_append, List.cons_append]
    refine wpAnyH_take (i := 0) (oi := { dst := some 29, op := Op.slice 27 (Operand.tmp 7) none none none, type := 65, pos := "edge.go:114", after := #[], guard := none }) (v := ?v1001) rfl (by kernel_rfl) (by kernel_rfl) (by kernel_rfl) (fun _ _ _ h => h) (Or.inl ⟨by rfl, ?hy1001⟩) hHeld ?_
    case hy1001 => (intro w hSw; (try dsimp only at hSw); go_simp; (try with_reducible rfl))
    (try simp only [Act.put, List.setIfInBounds_toArray, List.set_cons_zero, List.set_cons_succ])
    refine wpAnyH_take (i := 3) (oi := { dst := some 32, op := Op.move (Operand.tmp 11), type := 79, pos := "edge.go:114", after := #[], guard := none }) (v := ?v1002) rfl (by kernel_rfl) (by kernel_rfl) (by kernel_rfl) (fun _ _ _ h => h) (Or.inl ⟨by rfl, ?hy1002⟩) hHeld ?_
    case hy1002 => (intro w hSw; (try dsimp only at hSw); go_simp; (try with_reducible rfl))
    (try simp only [Act.put, List.setIfInBounds_toArray, List.set_cons_zero, List.set_cons_succ])
    refine wpAnyH_take (i := 4) (oi := { dst := some 33, op := Op.nilCheck (Operand.tmp 32), type := 0, pos := "edge.go:114", after := #[{ on := 3, ground := Ground.data }], guard := none }) (v := ?v1003) rfl (by kernel_rfl) (by kernel_rfl) (by kernel_rfl) (fun _ _ _ h => h) (Or.inl ⟨by rfl, ?hy1003⟩) hHeld ?_
    case hy1003 => (intro w hSw; (try dsimp only at hSw); go_simp; (try with_reducible rfl))
    (try simp only [Act.put, List.setIfInBounds_toArray, List.set_cons_zero, List.set_cons_succ])
    refine wpAnyH_take (i := 5) (oi := { dst := some 34, op := Op.fieldAddr 62 (Operand.tmp 33) 1, type := 0, pos := "edge.go:114", after := #[{ on := 4, ground := Ground.data }], guard := none }) (v := ?v1004) rfl (by kernel_rfl) (by kernel_rfl) (by kernel_rfl) (fun _ _ _ h => h) (Or.inl ⟨by rfl, ?hy1004⟩) hHeld ?_
    case hy1004 => (intro w hSw; (try dsimp only at hSw); go_simp; (try with_reducible rfl))
    (try simp only [Act.put, List.setIfInBounds_toArray, List.set_cons_zero, List.set_cons_succ])
    refine wpAnyH_take (i := 6) (oi := { dst := some 35, op := Op.fieldAddr 42 (Operand.tmp 34) 1, type := 0, pos := "edge.go:114", after := #[{ on := 5, ground := Ground.data }], guard := none }) (v := ?v1005) rfl (by kernel_rfl) (by kernel_rfl) (by kernel_rfl) (fun _ _ _ h => h) (Or.inl ⟨by rfl, ?hy1005⟩) hHeld ?_
    case hy1005 => (intro w hSw; (try dsimp only at hSw); go_simp; (try with_reducible rfl))
    (try simp only [Act.put, List.setIfInBounds_toArray, List.set_cons_zero, List.set_cons_succ])
    refine wpAnyH_take (i := 7) (oi := { dst := some 36, op := Op.fieldAddr 40 (Operand.tmp 35) 4, type := 0, pos := "edge.go:114", after := #[{ on := 6, ground := Ground.data }], guard := none }) (v := ?v1006) rfl (by kernel_rfl) (by kernel_rfl) (by kernel_rfl) (fun _ _ _ h => h) (Or.inl ⟨by rfl, ?hy1006⟩) hHeld ?_
    case hy1006 => (intro w hSw; (try dsimp only at hSw); go_simp; (try with_reducible rfl))
    (try simp only [Act.put, List.setIfInBounds_toArray, List.set_cons_zero, List.set_cons_succ])
    refine' wpAnyH_take (i := 8) (oi := { dst := some 37, op := Op.load 27 (Operand.tmp 36), type := 27, pos := "edge.go:114", after := #[{ on := 7, ground := Ground.data }], guard := none }) (v := _) rfl (by kernel_rfl) (by kernel_rfl) (by kernel_rfl) (fun _ _ _ h => h) (yieldsIf_load_mid (by rfl) _ _ rfl g (j * 204 + 105) rfl (nums .u8 f.out.o.lock) _ (fun _ h => range_keep h q105) un rfl hki.out) hHeld ?_
    (try simp only [Act.put, List.setIfInBounds_toArray, List.set_cons_zero, List.set_cons_succ])
    refine wpAnyH_ready (rs := [1]) (by kernel_rfl) (by simp) ?_
    refine AllReadyH.cons (o := { dst := some 30, op := Op.buildSlice 88 1 #[(0, Operand.tmp 29)], type := 88, pos := "edge.go:114", after := #[{ on := 0, ground := Ground.data }], guard := none }) rfl (fun K hK => ?_) ?_
    go_simp; (first | refine newZ ?_ | refine newZd ?_); intro wp hp bp; have HP := hid hp; have BP := hid bp; clear hp bp
    refine hK.out _ _ (by first | exact hHeld.trans (BP.out.mono hHeld.size) | exact BP.out) (fun hHeld => ?_)
    clear hK K
    (try simp only [List.setIfInBounds_toArray, List.set_cons_zero, List.set_cons_succ])
    refine wpAnyH_ready (rs := [2]) (by kernel_rfl) (by simp) ?_
    refine AllReadyH.cons (o := { dst := some 31, op := Op.call { callee := Callee.value (Operand.func 21), args := #[Operand.tmp 30], argTypes := #[88] }, type := 27, pos := "edge.go:114", after := #[{ on := 1, ground := Ground.data }], guard := none }) rfl (fun K hK => ?_) ?_
    go_simp; refine (SW _ _ (gen_cell (j := 0) (row_range (L := [.slice (some ⟨K7, 0, none⟩) 32 32]) HP.out) rfl) (SL2.out.below hHeld) (T2.out.below hHeld)).out.mono ?_; rintro e wt ⟨rfl, bt⟩; have BT := hid bt; clear bt
    refine hK.out _ _ (by first | exact hHeld.trans (BT.out.mono hHeld.size) | exact BT.out) (fun hHeld => ?_)
    clear hK K
    (try simp only [List.setIfInBounds_toArray, List.set_cons_zero, List.set_cons_succ])
    refine wpAnyH_take (i := 9) (oi := { dst := some 38, op := Op.binOp BinOp.neq 27 (Operand.tmp 31) (Operand.tmp 37) 27, type := 4, pos := "edge.go:114", after := #[{ on := 2, ground := Ground.data }, { on := 8, ground := Ground.data }], guard := none }) (v := ?v1007) rfl (by kernel_rfl) (by kernel_rfl) (by kernel_rfl) (fun _ _ _ h => h) (Or.inl ⟨by rfl, ?hy1007⟩) hHeld ?_
    case hy1007 => (intro w hSw; (try dsimp only at hSw); go_simp; (try with_reducible rfl))
    (try simp only [Act.put, List.setIfInBounds_toArray, List.set_cons_zero, List.set_cons_succ])
    refine wpAnyH_take (i := 10) (oi := { dst := some 28, op := Op.assign (Operand.tmp 38), type := 4, pos := "edge.go:114", after := #[{ on := 9, ground := Ground.data }, { on := 2, ground := Ground.chain }], guard := none }) (v := ?v1008) rfl (by kernel_rfl) (by kernel_rfl) (by kernel_rfl) (fun _ _ _ h => h) (Or.inl ⟨by rfl, ?hy1008⟩) hHeld ?_
    case hy1008 => (intro w hSw; (try dsimp only at hSw); go_simp; (try with_reducible rfl))
    (try simp only [Act.put, List.setIfInBounds_toArray, List.set_cons_zero, List.set_cons_succ])
    refine wpAnyH_done (by kernel_rfl) ?_ _
    rotate_left
    exact AllReadyH.nil
    exact AllReadyH.nil
    all_goals
      have HS4 := hid (HS2.out.below hHeld)
      have A4 := heap_keep A2.out hHeld
      have B4 := hid (bstep B2.out hHeld)
      have row4 := range_keep hHeld ROW.out
      have r32 := row_range (heap_keep S2.out hHeld)
      have ow4 := HS4.out.e.own
      have c203 : wt.cell? ⟨g, j * 204 + 203, none⟩ = some (.int .i64 f.st) := (Fw.hasSt fok.out).one row4
      have fin4 := (Fw.hasIn f).rng row4
      rw [Nat.add_zero] at fin4
      have FIN := hid fin4
      clear hHeld q105 nq ng SW SL2 d2 t1 t2 A2' fin4 row4
      cases bq with
      | false =>
        go_wp2_with (refine wpList_store_row rfl _ _ _ rfl R zL rfl rfl _ _ A4 hzi.out rfl hzo.out ?_)
        have q1 := setRow_heap wt R _ zL _ _ A4
        refine bodyPost_ret (results_cell_tmp rfl _ _ R _ zL _ _ _ rfl rfl q1 Tryd.underlying42 rfl hzi.out) rfl ?_
        have fr := far_row wt R zL
        refine ⟨lz, 31, L, M, rfl, HS4.out.fresh fr (by rw [HR.out]; exact Nat.le_succ_of_le HS.out.lt.2.2) hge.out, Keep.of (B4.out.trans (fr.below (by rw [HR.out]; exact Nat.le_succ _) B4.out.size)), ⟨rfl, .inr ⟨j, f, FF.out, .inl ⟨by rw [SD.out]; exact of_decide_eq_false BQ.out, rfl, rfl, rfl⟩⟩⟩, lz_ok⟩
      | true =>
        have SHA := hid (show sha sec = f.out.o.lock from by rw [SD.out]; exact of_decide_eq_true BQ.out)
        by_cases hst : f.st = 2
        · have ts : (f.st == 2) = true := by simp [hst]
          have ST := hid hst
          clear hst
          go_wp2_with (refine wpList_store_row rfl _ _ _ rfl R zL rfl rfl _ _ A4 hzi.out rfl hzo.out ?_)
          have q1 := setRow_heap wt R _ zL _ _ A4
          refine bodyPost_ret (results_cell_tmp rfl _ _ R _ zL _ _ _ rfl rfl q1 Tryd.underlying42 rfl hzi.out) rfl ?_
          have fr := far_row wt R zL
          refine ⟨lz, 52, L, M, rfl, HS4.out.fresh fr (by rw [HR.out]; exact Nat.le_succ_of_le HS.out.lt.2.2) hge.out, Keep.of (B4.out.trans (fr.below (by rw [HR.out]; exact Nat.le_succ _) B4.out.size)), ⟨rfl, .inr ⟨j, f, FF.out, .inr (.inl ⟨SHA.out, ST.out, rfl, rfl, rfl⟩)⟩⟩, lz_ok⟩
        have ts : (f.st == 2) = false := by simp [hst]
        have ST := hid hst
        have z203 := ow4.frozenAt (j * 204 + 203)
        obtain ⟨f1, hf1⟩ : ∃ f1, f1 = { f with st := 1 } := ⟨_, rfl⟩
        have fok1 := hid (show f1.ok from by rw [hf1]; exact { fok.out with sw := (show (Lit.int .i64 1).wf = true by decide) })
        have own5 := (ow4.stored (j * 204 + 203) (.int .i64 1)).1
        rw [fwset HS.out.e.ok HJ.out (by decide) (q' := f1) (by rw [Fw.setSt fok.out, hf1])] at own5
        have th5 := own_there (o := j * 204 + 171) (m := 32) own5 (by omega)
        have hj1 : (L.set j f1)[j]? = some f1 := List.getElem?_set_self hjl
        have ok1 : ∀ q ∈ L.set j f1, q.ok := fun q hq => by
          rcases List.mem_or_eq_of_mem_set hq with hq | rfl
          · exact HS.out.e.ok q hq
          · exact fok1.out
        have own6 := own_setCells (nums .u8 sec) (j * 204 + 171) _ _ own5
        rw [fw_setSec ok1 hj1 SEC.out.1, List.set_set] at own6
        have e6 : ({ f1 with sec := sec } : Fw) = { f with st := 1, sec := sec } := by rw [hf1]
        rw [e6] at own6
        have OW6 := hid own6
        have F6 := hid ((Far.set (H := g) (j := j * 204 + 203) (w := wt) (.int .i64 1)).trans (far_setCells (nums .u8 sec) (j * 204 + 171) _))
        have TH5 := hid th5
        have hsa := hid (show (Tryd.prog.info? 27).map (·.size) = some (nums .u8 sec).toArray.size by rw [List.size_toArray, nums_length, SEC.out.1]; exact infoH)
        have hso := hid (all_oneCell_toArray (nums_oneCell .u8 sec))
        clear hst own5 own6 th5 hf1 hj1 ok1 e6
        go_upto_region 11 with (fail)
        go_upto_region 12 with (first | with_reducible refine wpList_load_mid rfl _ _ rfl K7 0 rfl (nums .u8 sec) _ r32 un rfl hsi.out ?_ | (refine wpList_store_mid rfl _ _ _ rfl g (j * 204 + 171) (nums .u8 sec).toArray rfl rfl (by rw [show (nums .u8 sec).toArray.size = 32 by rw [List.size_toArray, nums_length, SEC.out.1]]; exact TH5.out) hsa.out hso.out ?_))
        obtain ⟨f6, hf6⟩ : ∃ f6, f6 = ({ f with st := 1, sec := sec } : Fw) := ⟨_, rfl⟩
        have F6E := hid hf6
        rw [← hf6] at OW6
        have fok6 := hid (show f6.ok from by rw [hf6]; exact { fok.out with sw := (show (Lit.int .i64 1).wf = true by decide), sl := SEC.out.1, sb := SEC.out.2 })
        clear hf6 c203 z203 TH5 r32
        generalize World.setCells _ g (j * 204 + 171) _ = w6 at *
        have ok6 : ∀ q ∈ L.set j f6, q.ok := fun q hq => by
          rcases List.mem_or_eq_of_mem_set hq with hq | rfl
          · exact HS.out.e.ok q hq
          · exact fok6.out
        have OK6 := hid ok6
        have hj6 : (L.set j f6)[j]? = some f6 := List.getElem?_set_self hjl
        have fin6 := (Fw.hasIn f6).rng (own_fw OW6.out ok6 hj6)
        rw [Nat.add_zero, show f6.inn = f.inn by rw [F6E.out]] at fin6
        have gB := hid ((ow4.lt g rfl).1)
        have len6 := hid (show (L.set j f6).length = L.length from List.length_set)
        have HS6 := hid (show Shop w6 eb tb mb dl B (.slice (some ⟨g, 0, none⟩) L.length c) (L.set j f6) M n from by
          have k := Keep.far' F6.out
          have gb := gB.out
          have lt := HS4.out.lt
          have el := HS4.out.e.lt
          refine ⟨⟨k.heap HS4.out.e.cell (by omega), by rw [len6.out]; exact OW6.out, OK6.out, by rw [len6.out]; exact HS4.out.e.few, el⟩, HS4.out.t.keep k (by omega) (by omega), HS4.out.ne, lt.1, lt.2.1, Nat.le_trans lt.2.2 k.size⟩)
        have A6 := heap_far A4 F6.out (fun e => hge.out g rfl e.symm)
        have hii := hid (infoLl fok.out.i)
        have hai := hid (infoLa fok.out.i)
        have hza := hid (zL_as fok.out.i)
        have hoa := hid (all_oneCell_toArray (Lg.one f.inn))
        clear ok6 hj6 A4 ow4
        go_wp2_with (first | with_reducible refine wpList_load_mid rfl _ _ rfl g (j * 204) rfl f.inn.cells _ fin6 unL rfl hii.out ?_ | with_reducible refine wpList_store_row rfl _ _ _ rfl R f.inn.cells.toArray rfl rfl _ _ A6 hai.out hza.out hoa.out ?_)
        have q1 := setRow_heap w6 R _ f.inn.cells.toArray _ _ A6
        refine bodyPost_ret (results_cell_tmp rfl _ _ R _ f.inn.cells.toArray _ _ _ rfl rfl q1 Tryd.underlying42 rfl hai.out) rfl ?_
        have fr := far_row w6 R f.inn.cells.toArray
        have kk : Keep (ShopS eb mb (.slice (some ⟨g, 0, none⟩) L.length c)) w (w6.setRow R f.inn.cells.toArray) :=
          ((Keep.of B4.out).trans (Keep.far F6.out (.inr (.inr rfl)))).then (Keep.far' fr) (fun i hi hh => by rw [hh, HR.out] at hi; omega)
        refine ⟨f.inn, 0, L.set j f6, M, rfl, HS6.out.fresh fr (by rw [HR.out]; exact Nat.le_succ_of_le HS.out.lt.2.2) (fun g' hg => by cases hg; exact hge.out g rfl), kk, ⟨rfl, .inr ⟨j, f, FF.out, .inr (.inr ⟨SHA.out, ST.out, rfl, rfl, by rw [F6E.out]⟩)⟩⟩, fok.out.i⟩
end Go.Proofs.YthccjefhlmngbaaDoor

/- slices.Delete at forwards; edge's Close. -/
namespace Go.Proofs.YthccjefhlmngbaaDoor
open Go.RowKit

theorem wp_appR {P : Program} {o : Oper} {a : Act} {K : Act → World → Prop} {Q : Exit → Act → World → Prop} {w : World} (s x : Operand) (t : TypeId)
    (ho : o.op = .call { callee := .builtin .append, args := #[s, x], argTypes := #[t, t] }) {e : TypeId} {i : TypeInfo} (ht : P.underlying t = some (.slice e)) (hi : P.info? e = some i)
    (g sLen sCap : Nat) (cur : Array Value) (hg : w.heap[g]? = some (.cells cur e (0, 0))) (ad : Addr) (m c : Nat) (news : List Value) (hl : news.length = m * i.size) (hnews : ∀ j u, news[j]? = some u → w.cell? (ad.add j) = some u) (h1 : ∀ u ∈ news, u.oneCell' = true)
    (hroom : sLen + m ≤ sCap) (hfit : sLen * i.size + news.length ≤ cur.size) (hs : a.eval s = .slice (some ⟨g, 0, none⟩) sLen sCap) (hx : a.eval x = .slice (some ad) m c)
    (h : K (a.put o.dst (.slice (some ⟨g, 0, none⟩) (sLen + m) sCap)) (w.setRow g (cur.toList.take (sLen * i.size) ++ news ++ cur.toList.drop (sLen * i.size + news.length)).toArray)) : o.wp P a w K Q := by
  have hr := run_append_room (P := P) w t o.type e i ht hi g sLen sCap cur hg ad m c news hl hnews h1 hroom hfit
  unfold Oper.wp execOp
  simp only [ho, resolve, invoke, builtin, Sem.run_bind, Sem.run_pure, Result.andThen_ok, List.map_toArray, List.map_cons, List.map_nil, hs, hx, hr]
  exact h
theorem run_clear1 {P : Program} (w : World) (t e ty : TypeId) (zs : Array Value) (ht : P.underlying t = some (.slice e)) (hv : ∀ w, (zeroValue e).run P w = .ok (.agg zs) w) (h1 : ∀ v ∈ zs.toList, v.oneCell' = true) (b o c : Nat)
    (hc : w.there b o zs.size) : (Builtin.clear_ #[t] ty #[.slice (some ⟨b, o, none⟩) 1 c]).run P w = .ok (.tuple #[]) (w.setCells b o zs.toList) := by
  have hzc : (Builtin.zeroCells (Value.agg zs).cells 1).toList = zs.toList := by
    have e : (Builtin.zeroCells (Value.agg zs).cells 1).toList = List.map (fun i => zs[i % zs.size]!) (List.range zs.size) := by simp [Builtin.zeroCells, Value.cells]
    rw [e]
    apply List.ext_getElem
    · simp
    · intro k h2 h3
      have hk : k < zs.size := by simpa using h3
      rw [List.getElem_map, List.getElem_range, Nat.mod_eq_of_lt hk, getElem!_pos zs k hk]
      simp
  have hst := run_storeCells_cells (P := P) b o zs.toList 0 w (by intro j hj; exact (hc j (by simpa using hj)).1) (by intro j hj; exact (hc j (by simpa using hj)).2) h1
  simp only [Nat.add_zero] at hst
  simp [Builtin.clear_, run_underlying ht, hv, hzc, hst]
theorem wpList_clear1 {P : Program} {w : World} {ops : Array Oper} {rest : List Oper} {o : Oper} {a : Act} {Q : Exit → Act → World → Prop} (hg : o.guard = none) (x : Operand) (t e : TypeId) (hop : o.op = Op.call { callee := Callee.builtin Builtin.clear, args := #[x], argTypes := #[t] }) (zs : Array Value)
    (ht : P.underlying t = some (.slice e)) (hv : ∀ w, (zeroValue e).run P w = .ok (.agg zs) w) (h1 : ∀ v ∈ zs.toList, v.oneCell' = true) (b k c : Nat) (hx : a.eval x = .slice (some ⟨b, k, none⟩) 1 c) (hc : w.there b k zs.size)
    (hK : wpList P ops Q rest (a.put o.dst (.tuple #[])) (w.setCells b k zs.toList)) : wpList P ops Q (o :: rest) a w := by
  refine wpList_plain hg fun K' hK' => ?_
  have hr := run_clear1 w t e o.type zs ht hv h1 b k c hc
  unfold Oper.wp execOp
  simp only [hop, resolve, invoke, builtin, Sem.run_bind, Sem.run_pure, Result.andThen_ok, List.map_toArray, List.map_cons, List.map_nil, hx, hr]
  exact hK' _ _ hK
theorem fw_parts0 {L : List Fw} (hok : ∀ q ∈ L, q.ok) {j : Nat} {f : Fw} (hj : L[j]? = some f) : ∃ A B, A.length = j * 204 ∧ (L.flatMap Fw.cells = A ++ (f.cells ++ B) ∧ (L.eraseIdx j).flatMap Fw.cells = A ++ B) ∧ True := by
  induction L generalizing j with
  | nil => simp at hj
  | cons p r ih =>
    cases j with
    | zero =>
      simp only [List.getElem?_cons_zero, Option.some.injEq] at hj
      subst hj
      exact ⟨[], r.flatMap Fw.cells, by simp, ⟨by simp, by simp⟩, trivial⟩
    | succ j =>
      simp only [List.getElem?_cons_succ] at hj
      obtain ⟨A, B, hl, ⟨e, hs⟩, _⟩ := ih (fun x hx => hok x (List.mem_cons_of_mem _ hx)) hj
      refine ⟨p.cells ++ A, B, ?_, ⟨by rw [List.flatMap_cons, e, List.append_assoc], by rw [List.eraseIdx_cons_succ, List.flatMap_cons, hs, List.append_assoc]⟩, trivial⟩
      rw [List.length_append, Fw.len (hok p (by simp)), hl, Nat.add_mul]; omega
theorem fw_erase {L : List Fw} (hok : ∀ q ∈ L, q.ok) {j : Nat} (hj : j < L.length) : (L.eraseIdx j).flatMap Fw.cells = (L.flatMap Fw.cells).take (j * 204) ++ (L.flatMap Fw.cells).drop ((j + 1) * 204) := by
  have e := List.getElem?_eq_getElem hj
  have fok := hok _ (List.mem_of_getElem? e)
  obtain ⟨A, B, hl, e2, _⟩ := fw_parts0 hok e
  rw [e2.1, ← hl, List.take_left, show (j + 1) * 204 = A.length + L[j].cells.length by rw [hl, Fw.len fok, Nat.add_mul], ← List.drop_drop, List.drop_left, List.drop_left]
  exact e2.2
/-- what the row's block holds behind it -/
def delCur (cur : Array Value) (xs : List Value) (_n i : Nat) : List Value := cur.toList.take (i * 204) ++ xs.drop ((i + 1) * 204) ++ cur.toList.drop (i * 204 + (xs.drop ((i + 1) * 204)).length)
def DelRes (w : World) (B g n c i : Nat) (L : List Fw) (e : Ending) (w' : World) : Prop :=
  e = .returned (.slice (some ⟨g, 0, none⟩) (n - 1) c) ∧ w'.ownsRow B 62 204 (.slice (some ⟨g, 0, none⟩) (n - 1) c) (n - 1) ((L.eraseIdx i).flatMap Fw.cells) ∧ Far g w w'
set_option maxRecDepth 100000 in
set_option maxHeartbeats 4000000 in
theorem del_walk (B g n c i : Nat) (L : List Fw) (w : World) (hok : ∀ q ∈ L, q.ok) (hl : L.length = n) (hi : i < n) (hn : n ≤ 256) (h : w.ownsRow B 62 204 (.slice (some ⟨g, 0, none⟩) n c) n (L.flatMap Fw.cells)) :
    Calls Tryd.prog 31 #[.slice (some ⟨g, 0, none⟩) n c, .int .i64 (i : Int), .int .i64 ((i + 1 : Nat) : Int)] w (DelRes w B g n c i L) := by
  have H := hid h
  obtain ⟨cur, hg, hnc, hcm, hcs, htk⟩ : ∃ cur : Array Value, w.heap[g]? = some (.cells cur 62 (0, 0)) ∧ n ≤ c ∧ c ≤ maxLen ∧ cur.size = c * 204 ∧ cur.toList.take (n * 204) = L.flatMap Fw.cells := by
    rcases h.2 with ⟨hv, _⟩ | ⟨g', cap', cur, hv, hbg, hg, hnc, hcm, hcs, htake⟩
    · simp at hv
    · simp only [Value.slice.injEq, Option.some.injEq, Addr.mk.injEq, and_true, true_and] at hv
      obtain ⟨rfl, rfl⟩ := hv
      exact ⟨cur, hg, hnc, hcm, hcs, htake⟩
  have HG := hid hg
  have XL := hid (fwlen hok)
  have HOK := hid hok
  have HLn := hid hl
  have HCS := hid hcs
  have HTK := hid htk
  obtain ⟨u, hu⟩ : ∃ u, u = i + 1 := ⟨_, rfl⟩
  rw [← hu]
  have HU := hid hu
  have i1 : (0 : Int) ≤ (i : Int) := by omega
  have i2 : (i : Int) ≤ (u : Int) := by omega
  have i3 : (u : Int) ≤ (n : Int) := by omega
  have i4 : (n : Int) ≤ (c : Int) := by omega
  have i5 : ((i : Int) == (u : Int)) = false := by simp; omega
  have i6 : i ≤ u := by omega
  have i7 : u ≤ n := by omega
  have i8 : n ≤ c := hnc
  have i9 : i ≤ c := by omega
  have i10 : (i : Int) ≤ (c : Int) := by omega
  obtain ⟨ad, had, hnew⟩ : ∃ ad : Addr, (if c = u then (some ⟨g, 0, none⟩ : Option Addr) else some ⟨g, u * 204, none⟩) = some ad ∧ ∀ j y, (List.drop (u * 204) (L.flatMap Fw.cells))[j]? = some y → w.cell? (ad.add j) = some y := by
    have hx := fwlen hok
    rw [hl] at hx
    by_cases hcu : c = u
    · rw [if_pos hcu]
      refine ⟨_, rfl, fun j y hy => ?_⟩
      rw [List.getElem?_drop, List.getElem?_eq_none (by rw [hx]; have : n = u := by omega
                                                        subst this; omega)] at hy
      cases hy
    · rw [if_neg hcu]
      refine ⟨_, rfl, fun j y hy => ?_⟩
      rw [List.getElem?_drop] at hy
      have hadd : (⟨g, u * 204, none⟩ : Addr).add j = ⟨g, u * 204 + j, none⟩ := by unfold Addr.add; split <;> simp_all
      have hlt := (List.getElem?_eq_some_iff.1 hy).1
      rw [hadd, h.cellAt (u * 204 + j) (by rw [hx] at hlt; exact hlt)]
      exact hy
  have NEW := hid hnew
  have unS := Tryd.underlying51
  obtain ⟨ie, hie⟩ : ∃ ie, Tryd.prog.info? 62 = some ie := by
    cases hx : Tryd.prog.info? 62 with
    | none => have := infoF; rw [hx] at this; cases this
    | some y => exact ⟨y, rfl⟩
  have HIE := hid hie
  have HIS := hid (show ie.size = 204 from by have := infoF; rw [hie] at this; simpa using this)
  have ONE := hid (show ∀ y ∈ List.drop (u * 204) (L.flatMap Fw.cells), y.oneCell' = true from fun y hy => by
    obtain ⟨f, _, hf⟩ := List.mem_flatMap.1 (List.mem_of_mem_drop hy)
    exact Fw.one f y hf)
  have HNC := hid hnc
  clear h hg hok hl hcs htk hcm hu hie hnew
  go_enter Tryd.func31, Tryd.ntmps31
  go_upto_region 5 with (fail)
  refine wp_region_held_drew (S := fun _ => True) (by kernel_rfl) (trivial) (fun hHeld => ?_)
  try simp only [List.size_toArray, List.length_cons, List.length_nil, Nat.reduceAdd, Array.replicate_succ, Array.replicate_zero, List.push_toArray, List.nil_append, List.cons_append]
  refine wpAnyH_take (i := 0) (oi := { dst := some 20, op := Op.move (Operand.tmp 0), type := 51, pos := "slices.go:232", after := #[], guard := none }) (v := ?v1001) rfl (by kernel_rfl) (by kernel_rfl) (by kernel_rfl) (fun _ _ _ h => h) (Or.inl ⟨by rfl, ?hy1001⟩) hHeld ?_
  case hy1001 => (intro w hSw; (try dsimp only at hSw); go_simp; (try with_reducible rfl))
  (try simp only [Act.put, List.setIfInBounds_toArray, List.set_cons_zero, List.set_cons_succ])
  refine wpAnyH_take (i := 1) (oi := { dst := some 21, op := Op.move (Operand.tmp 1), type := 3, pos := "slices.go:232", after := #[], guard := none }) (v := ?v1002) rfl (by kernel_rfl) (by kernel_rfl) (by kernel_rfl) (fun _ _ _ h => h) (Or.inl ⟨by rfl, ?hy1002⟩) hHeld ?_
  case hy1002 => (intro w hSw; (try dsimp only at hSw); go_simp; (try with_reducible rfl))
  (try simp only [Act.put, List.setIfInBounds_toArray, List.set_cons_zero, List.set_cons_succ])
  refine wpAnyH_take (i := 2) (oi := { dst := some 22, op := Op.slice 51 (Operand.tmp 20) none (some (Operand.tmp 21)) none, type := 51, pos := "slices.go:232", after := #[{ on := 0, ground := Ground.data }, { on := 1, ground := Ground.data }], guard := none }) (v := ?v1003) rfl (by kernel_rfl) (by kernel_rfl) (by kernel_rfl) (fun _ _ _ h => h) (Or.inl ⟨by rfl, ?hy1003⟩) hHeld ?_
  case hy1003 => (intro w hSw; (try dsimp only at hSw); go_simp; (try with_reducible rfl))
  (try simp only [Act.put, List.setIfInBounds_toArray, List.set_cons_zero, List.set_cons_succ])
  refine wpAnyH_take (i := 3) (oi := { dst := some 23, op := Op.move (Operand.tmp 0), type := 51, pos := "slices.go:232", after := #[], guard := none }) (v := ?v1004) rfl (by kernel_rfl) (by kernel_rfl) (by kernel_rfl) (fun _ _ _ h => h) (Or.inl ⟨by rfl, ?hy1004⟩) hHeld ?_
  case hy1004 => (intro w hSw; (try dsimp only at hSw); go_simp; (try with_reducible rfl))
  (try simp only [Act.put, List.setIfInBounds_toArray, List.set_cons_zero, List.set_cons_succ])
  refine wpAnyH_take (i := 4) (oi := { dst := some 24, op := Op.move (Operand.tmp 2), type := 3, pos := "slices.go:232", after := #[], guard := none }) (v := ?v1005) rfl (by kernel_rfl) (by kernel_rfl) (by kernel_rfl) (fun _ _ _ h => h) (Or.inl ⟨by rfl, ?hy1005⟩) hHeld ?_
  case hy1005 => (intro w hSw; (try dsimp only at hSw); go_simp; (try with_reducible rfl))
  (try simp only [Act.put, List.setIfInBounds_toArray, List.set_cons_zero, List.set_cons_succ])
  refine wpAnyH_take (i := 5) (oi := { dst := some 25, op := Op.slice 51 (Operand.tmp 23) (some (Operand.tmp 24)) none none, type := 51, pos := "slices.go:232", after := #[{ on := 3, ground := Ground.data }, { on := 4, ground := Ground.data }], guard := none }) (v := ?v1006) rfl (by kernel_rfl) (by kernel_rfl) (by kernel_rfl) (fun _ _ _ h => h) (Or.inl ⟨by rfl, ?hy1006⟩) hHeld ?_
  case hy1006 => (intro w hSw; (try dsimp only at hSw); go_simp; (try with_reducible rfl))
  (try simp only [Act.put, List.setIfInBounds_toArray, List.set_cons_zero, List.set_cons_succ])
  refine wpAnyH_ready (rs := [6]) (by kernel_rfl) (by simp) ?_
  refine AllReadyH.cons (o := { dst := some 26, op := Op.call { callee := Callee.builtin Builtin.append, args := #[Operand.tmp 22, Operand.tmp 25], argTypes := #[51, 51] }, type := 51, pos := "slices.go:232", after := #[{ on := 2, ground := Ground.data }, { on := 5, ground := Ground.data }], guard := none }) rfl (fun K hK => ?_) ?_
  rw [if_pos (by rfl)]; refine wp_appR _ _ _ rfl unS HIE.out g i c cur (show w.drew.heap[g]? = _ from HG.out) _ _ _ (List.drop (u * 204) (L.flatMap Fw.cells)) ?zl ?zn ?zo ?zr ?zf rfl rfl ?zK; (case zl => rw [List.length_drop, XL.out, HLn.out, HIS.out, Nat.sub_mul]); (case zn => exact (fun j y hy => NEW.out j y hy)); (case zo => exact ONE.out); (case zr => omega); (case zf => rw [List.length_drop, XL.out, HLn.out, HIS.out, HCS.out]; omega); rw [HIS.out]
  refine hK.out _ _ (trivial) (fun hHeld => ?_)
  clear hK K
  (try simp only [List.setIfInBounds_toArray, List.set_cons_zero, List.set_cons_succ])
  refine wpAnyH_take (i := 7) (oi := { dst := some 0, op := Op.assign (Operand.tmp 26), type := 51, pos := "slices.go:232", after := #[{ on := 6, ground := Ground.data }, { on := 6, ground := Ground.chain }, { on := 0, ground := Ground.phase }, { on := 1, ground := Ground.phase }, { on := 2, ground := Ground.phase }, { on := 3, ground := Ground.phase }, { on := 4, ground := Ground.phase }, { on := 5, ground := Ground.phase }, { on := 6, ground := Ground.phase }], guard := none }) (v := ?v1007) rfl (by kernel_rfl) (by kernel_rfl) (by kernel_rfl) (fun _ _ _ h => h) (Or.inl ⟨by rfl, ?hy1007⟩) hHeld ?_
  case hy1007 => (intro w hSw; (try dsimp only at hSw); go_simp; (try with_reducible rfl))
  (try simp only [Act.put, List.setIfInBounds_toArray, List.set_cons_zero, List.set_cons_succ])
  refine wpAnyH_done (by kernel_rfl) ?_ _
  rotate_left
  exact AllReadyH.nil
  obtain ⟨N1, hN1⟩ : ∃ N1, N1 = i + (n - u) := ⟨_, rfl⟩
  rw [← hN1]
  have HN1 := hid (show N1 + 1 = n from by have := HU.out; omega)
  have CL := hid (show (List.take (i * 204) cur.toList ++ List.drop (u * 204) (List.flatMap Fw.cells L) ++ List.drop (i * 204 + (List.drop (u * 204) (List.flatMap Fw.cells L)).length) cur.toList).length = c * 204 from by
    have h1 := HCS.out
    simp only [List.length_append, List.length_take, List.length_drop, Array.length_toList, XL.out, HLn.out, h1]
    omega)
  have HG2 := hid (setRow_heap w.drew g cur (List.take (i * 204) cur.toList ++ List.drop (u * 204) (List.flatMap Fw.cells L) ++ List.drop (i * 204 + (List.drop (u * 204) (List.flatMap Fw.cells L)).length) cur.toList).toArray _ _ (show w.drew.heap[g]? = _ from HG.out))
  have FR2 := hid ((Far.of (H := g) (Below.refl w.heap.size w).drew).trans (far_row w.drew g (List.take (i * 204) cur.toList ++ List.drop (u * 204) (List.flatMap Fw.cells L) ++ List.drop (i * 204 + (List.drop (u * 204) (List.flatMap Fw.cells L)).length) cur.toList).toArray))
  have TK := hid (show List.take (N1 * 204) (List.take (i * 204) cur.toList ++ List.drop (u * 204) (List.flatMap Fw.cells L) ++ List.drop (i * 204 + (List.drop (u * 204) (List.flatMap Fw.cells L)).length) cur.toList) = (L.eraseIdx i).flatMap Fw.cells from by
    have hx : (List.flatMap Fw.cells L).length = n * 204 := by rw [XL.out, HLn.out]
    have hle : i * 204 ≤ n * 204 := by omega
    rw [List.take_left' (by simp only [List.length_append, List.length_take, List.length_drop, Array.length_toList, HCS.out, hx]; have := HU.out; have := HN1.out; omega), fw_erase HOK.out (by rw [HLn.out]; have := HU.out; omega), ← HU.out]
    congr 1
    rw [← HTK.out, List.take_take, Nat.min_eq_left hle])
  generalize (List.take (i * 204) cur.toList ++ List.drop (u * 204) (List.flatMap Fw.cells L) ++ List.drop (i * 204 + (List.drop (u * 204) (List.flatMap Fw.cells L)).length) cur.toList) = cur2 at *
  generalize w.drew.setRow g cur2.toArray = w2 at *
  have CN := hid (show N1 < c from by have := HN1.out; omega)
  have hne : ¬ c = N1 := by have := CN.out; omega
  have j1 : (0 : Int) ≤ (N1 : Int) := by omega
  have j2 : (N1 : Int) ≤ (n : Int) := by have := HN1.out; omega
  have j3 : N1 ≤ n := by have := HN1.out; omega
  have e1 : n - N1 = 1 := by have := HN1.out; omega
  have zF' := zeroF
  have hneF := zF_ne
  have TH := hid (tag_there (o := N1 * 204) (n := zF.size) HG2.out (by simp only [List.size_toArray, zF_size, CL.out]; have := CN.out; omega))
  clear hN1 had
  have hcl : ∀ ty : TypeId, (Builtin.clear_ #[51] ty #[.slice (some ⟨g, N1 * 204, none⟩) 1 (c - N1)]).run Tryd.prog w2 = .ok (.tuple #[]) (w2.setCells g (N1 * 204) zF.toList) := fun ty => run_clear1 w2 _ _ ty zF unS zeroF (fun v hv => Fw.one fz v (by simpa [zF] using hv)) g (N1 * 204) _ TH.out
  clear zF' hneF
  go_wp2_with (fail)
  go_ret
  have F3 := far_setCells (g := g) zF.toList (N1 * 204) w2
  have hg3 := heap_setCells zF.toList (N1 * 204) w2 cur2.toArray HG2.out
  have hsz : (setMs cur2.toArray (N1 * 204) zF.toList).size = c * 204 := by rw [setMs_size, List.size_toArray, CL.out]
  have hn1 : N1 = n - 1 := by have := HN1.out; omega
  have HB := (H.out.lt g rfl).1
  refine ⟨by rw [← hn1]; rfl, ?_, FR2.out.trans F3⟩
  rw [← hn1]
  refine ⟨?_, .inr ⟨g, c, _, rfl, HB, hg3, by have := CN.out; omega, ?_, hsz, ?_⟩⟩
  · rw [fwlen (fun q hq => HOK.out q (List.mem_of_mem_eraseIdx hq)), List.length_eraseIdx_of_lt (by rw [HLn.out]; have := HU.out; omega), HLn.out, hn1]
  · rcases H.out.2 with ⟨hv, _⟩ | ⟨g', cap', cur', hv, _, _, _, hcm, _⟩
    · simp at hv
    · simp only [Value.slice.injEq, Option.some.injEq, Addr.mk.injEq, and_true, true_and] at hv
      obtain ⟨_, rfl⟩ := hv
      exact hcm
  · rw [← TK.out]
    apply List.ext_getElem?
    intro k
    rw [List.getElem?_take, List.getElem?_take]
    split
    · rename_i hk
      rw [Array.getElem?_toList, setMs_get _ _ _ _ (by rw [List.size_toArray, CL.out, Array.length_toList, zF_size]; have := CN.out; omega), if_neg (by omega), List.getElem?_toArray]
    · rfl
def CloC (L : List Fw) (line no : Int) (k : Nat) (L' : List Fw) : Prop :=
  ((∀ f ∈ L, hitF line no false f = false) ∧ k = 5 ∧ L' = L) ∨ ∃ j f, FirstF L (hitF line no false) j f ∧ ((f.st = 0 ∧ k = 52 ∧ L' = L) ∨ (f.st ≠ 0 ∧ k = 0 ∧ L' = L.eraseIdx j))
def CloRes (w : World) (eb tb mb : Nat) (dl : Int) (B : Nat) (v : Value) (L : List Fw) (M : QM) (n : Nat) (line no : Int) (e : Ending) (w' : World) : Prop :=
  ∃ (k : Nat) (L' : List Fw) (v' : Value), e = .returned (.int .i64 (k : Int)) ∧ Shop w' eb tb mb dl B v' L' M n ∧ Keep (ShopS eb mb v) w w' ∧ Newer w v v' ∧ CloC L line no k L'
set_option maxRecDepth 100000 in
set_option maxHeartbeats 4000000 in
theorem close_walk (eb tb mb : Nat) (dl : Int) (B : Nat) (v : Value) (L : List Fw) (M : QM) (n : Nat) (line no : Int) (w : World) (hS : Shop w eb tb mb dl B v L M n) :
    Calls Tryd.prog 17 #[.pointer (some ⟨eb, 0, none⟩), .int .i64 line, .int .i64 no] w (CloRes w eb tb mb dl B v L M n line no) := by
  have HS := hid hS
  clear hS
  go_enter Tryd.func17, Tryd.ntmps17
  go_wp2_with (fail)
  refine (find_walk eb tb B dl v L line no false w HS.out.e).mono ?_
  rintro e w2 ⟨r, rfl, hi, b2⟩
  have HI := hid hi
  have B2 := hid b2
  have HS2 := hid (HS.out.below b2)
  clear hi b2
  rcases HI.out with ⟨rfl, hno⟩ | ⟨j, f, rfl, hj, hp, hfst⟩
  · have HN := hid hno
    clear hno
    go_wp2
    go_ret
    exact ⟨5, L, v, rfl, HS2.out, Keep.of B2.out, Newer.refl _ _, .inl ⟨HN.out, rfl, rfl⟩⟩
  · have t1 : decide (((j : Nat) : Int) < 0) = false := decide_eq_false (by omega)
    have FF := hid (show FirstF L (hitF line no false) j f from ⟨hj, hp, hfst⟩)
    have fok := hid (HS.out.e.ok f (List.mem_of_getElem? hj))
    have hjl : j < L.length := (List.getElem?_eq_some_iff.1 hj).1
    obtain ⟨g, c, rfl⟩ := own_sl HS2.out.e.own (by omega)
    have t2 : decide (j < L.length) = true := decide_eq_true hjl
    have few := HS.out.e.few
    have d2 : w2.cell? ⟨eb, 2, none⟩ = some (.slice (some ⟨g, 0, none⟩) L.length c) := gen_cell (j := 2) (row_range (L := [.int .i64 dl, .pointer (some ⟨tb, 0, none⟩), .slice (some ⟨g, 0, none⟩) L.length c]) HS2.out.e.cell) rfl
    have c203 : w2.cell? ⟨g, j * 204 + 203, none⟩ = some (.int .i64 f.st) := (Fw.hasSt fok.out).one (own_fw HS2.out.e.own HS.out.e.ok hj)
    clear hj hp hfst
    by_cases hst : f.st = 0
    · have ts : (f.st == 0) = true := by simp [hst]
      have ST := hid hst
      clear hst
      go_wp2
      go_ret
      exact ⟨52, L, _, rfl, HS2.out, Keep.of B2.out, Newer.refl _ _, .inr ⟨j, f, FF.out, .inl ⟨ST.out, rfl, rfl⟩⟩⟩
    · have ts : (f.st == 0) = false := by simp [hst]
      have ST := hid hst
      have DW := hid (del_walk B g L.length c j L w2 HS.out.e.ok rfl hjl few HS2.out.e.own)
      have HJL := hid hjl
      obtain ⟨u, hu⟩ : ∃ u, u = j + 1 := ⟨_, rfl⟩
      rw [← hu] at DW
      have eu : ((j : Nat) : Int) + 1 = (u : Int) := by omega
      have ew : IntKind.i64.wrap (((j : Nat) : Int) + 1) = (u : Int) := by rw [IntKind.wrap_i64]; omega
      clear hst hjl hu eu
      go_wp2_with (fail)
      refine DW.out.mono ?_
      rintro e w3 ⟨rfl, own3, f3⟩
      have OW3 := hid own3
      have F3 := hid f3
      have gB := hid ((HS2.out.e.own.lt g rfl).1)
      have HC := hid (heap_far HS2.out.e.cell f3 (show eb ≠ g from by have := gB.out; have := HS2.out.e.lt; omega))
      have hC := HC.out
      have d3 : w3.cell? ⟨eb, 2, none⟩ = some (.slice (some ⟨g, 0, none⟩) L.length c) := gen_cell (j := 2) (row_range (L := [.int .i64 dl, .pointer (some ⟨tb, 0, none⟩), .slice (some ⟨g, 0, none⟩) L.length c]) hC) rfl
      have z3 : w3.frozen? ⟨eb, 2, none⟩ = false := frozen_of_row _ _ _ _ _ hC
      clear own3 f3 hC d2 c203
      go_wp2
      go_ret
      have F4 := Far.set (H := eb) (j := 2) (w := w3) (.slice (some ⟨g, 0, none⟩) (L.length - 1) c)
      have hc4 := heap_set (L := [.int .i64 dl, .pointer (some ⟨tb, 0, none⟩), .slice (some ⟨g, 0, none⟩) L.length c]) (i := 2) (.slice (some ⟨g, 0, none⟩) (L.length - 1) c) HC.out
      have hle : (L.eraseIdx j).length = L.length - 1 := List.length_eraseIdx_of_lt HJL.out
      have kk : Keep (ShopS eb mb (.slice (some ⟨g, 0, none⟩) L.length c)) w (w3.setCell ⟨eb, 2, none⟩ (.slice (some ⟨g, 0, none⟩) (L.length - 1) c)) :=
        ((Keep.of B2.out).trans (Keep.far F3.out (.inr (.inr rfl)))).trans (Keep.far F4 (.inl rfl))
      have gb := gB.out
      have lt := HS2.out.lt
      have el := HS2.out.e.lt
      have k34 := (Keep.far' F3.out).mono (R := fun i => i = g ∨ i = eb) (fun i hi => .inl hi)
      have k44 := k34.trans (Keep.far F4 (.inr rfl))
      refine ⟨0, L.eraseIdx j, .slice (some ⟨g, 0, none⟩) (L.length - 1) c, rfl, ⟨⟨hc4, ?_, fun q hq => HS.out.e.ok q (List.mem_of_mem_eraseIdx hq), by rw [hle]; omega, el⟩, HS2.out.t.keep k44 ?_ ?_, HS.out.ne, lt.1, lt.2.1, Nat.le_trans HS.out.lt.2.2 kk.size⟩, kk, .inl rfl, .inr ⟨j, f, FF.out, .inr ⟨ST.out, rfl, rfl⟩⟩⟩
      · rw [hle]
        exact Far.own OW3.out F4 (fun e => by have := (OW3.out.lt _ e).1; omega)
      · rintro (h | h)
        · omega
        · exact HS.out.ne.1 h.symm
      · rintro (h | h)
        · omega
        · exact HS.out.ne.2 h.symm
end Go.Proofs.YthccjefhlmngbaaDoor

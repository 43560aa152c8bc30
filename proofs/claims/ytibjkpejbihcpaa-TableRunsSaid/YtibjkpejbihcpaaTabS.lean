/- TableSums. -/
import Derived.Test.YtibjkpejbihcpaaTabW
import Derived.Test.YtibjkpejbihcpaaRef1e
namespace Go.Proofs.Ytibjkpejbihcpaa
open Go.RowKit

structure Stp where
  k : Int
  no : List Nat
  id : List Nat
  on : Bool
  a : Nat
  b : Nat
  rc : Nat
  ru : Nat
  h : Int
def Stp.tail (s : Stp) : List Value := [.bool s.on, .int .u64 (s.a : Int), .int .u64 (s.b : Int), .int .u64 (s.rc : Int), .int .u64 (s.ru : Int), .int .i64 s.h]
def Stp.cells (s : Stp) : List Value := .int .i64 s.k :: (nums .u8 s.no ++ nums .u8 s.id ++ s.tail)
structure Stp.ok (s : Stp) : Prop where
  nl : s.no.length = 32
  nb : ∀ d ∈ s.no, d < 256
  il : s.id.length = 32
  ib : ∀ d ∈ s.id, d < 256
  ab : s.a < 18446744073709551616
  bb : s.b < 18446744073709551616
  cb : s.rc < 18446744073709551616
  ub : s.ru < 18446744073709551616
  kw : (Lit.int .i64 s.k).wf = true
  hw : (Lit.int .i64 s.h).wf = true
def sz : Stp := ⟨0, hz32, hz32, false, 0, 0, 0, 0, 0⟩
theorem sz_ok : sz.ok := ⟨rfl, by intro d hd; simp [sz, hz32] at hd; omega, rfl, by intro d hd; simp [sz, hz32] at hd; omega, by decide, by decide, by decide, by decide, by decide, by decide⟩
theorem Stp.len {q : Stp} (h : q.ok) : q.cells.length = 71 := by simp [Stp.cells, Stp.tail, h.nl, h.il]
theorem Stp.get {q : Stp} (h : q.ok) (i : Nat) : q.cells[65 + i]? = q.tail[i]? := by
  rw [show 65 + i = (64 + i) + 1 by omega, Stp.cells, List.getElem?_cons_succ, List.getElem?_append_right (by simp [h.nl, h.il])]
  simp [h.nl, h.il]
theorem Stp.one (q : Stp) : ∀ v ∈ q.cells, v.oneCell' = true := by
  intro v hv
  simp only [Stp.cells, Stp.tail, List.mem_append, List.mem_cons, List.not_mem_nil, or_false] at hv
  rcases hv with rfl | (hv | hv) | hv
  · rfl
  · exact nums_oneCell _ _ v hv
  · exact nums_oneCell _ _ v hv
  · rcases hv with rfl | rfl | rfl | rfl | rfl | rfl <;> rfl
def zS : Array Value := sz.cells.toArray
theorem zS_size : zS.size = 71 := by unfold zS; rw [List.size_toArray]; exact Stp.len sz_ok
theorem zeroS (w : World) : (zeroValue 38).run Try.prog w = .ok (.agg zS) w := by
  have h : (Try.prog.info? 38).map (·.zero) = some (some (.agg zS)) := by kernel_rfl
  cases hi : Try.prog.info? 38 with
  | none => rw [hi] at h; cases h
  | some i =>
    rw [hi] at h
    simp only [Option.map_some, Option.some.injEq] at h
    simp [zeroValue, typeInfo, hi, h]
theorem infoS : (Try.prog.info? 38).map (·.size) = some 71 := by kernel_rfl
theorem zS_ne : ¬ zS = #[] := by intro e; have := zS_size; rw [e] at this; exact absurd this (by decide)
/-- a list of steps -/
def Stps (w : World) (a : Option Addr) (n cap : Nat) (ls : List Stp) : Prop := ls.length = n ∧ Rd w 71 a n cap (ls.flatMap Stp.cells) ∧ ∀ s ∈ ls, s.ok
theorem sflat_at {ls : List Stp} (hs : ∀ s ∈ ls, s.ok) {i : Nat} {x : Stp} (h : ls[i]? = some x) {k : Nat} (hk : k < 71) : (ls.flatMap Stp.cells)[i * 71 + k]? = x.cells[k]? := by
  induction ls generalizing i with
  | nil => simp at h
  | cons y r ih =>
    have hy := Stp.len (hs y (by simp))
    cases i with
    | zero =>
      simp only [List.getElem?_cons_zero, Option.some.injEq] at h
      subst h
      rw [Nat.zero_mul, Nat.zero_add, List.flatMap_cons, List.getElem?_append_left (by omega)]
    | succ i =>
      rw [List.getElem?_cons_succ] at h
      rw [List.flatMap_cons, List.getElem?_append_right (by rw [hy, Nat.add_mul]; omega), hy, ← ih (fun s hm => hs s (by simp [hm])) h]
      congr 1
      rw [Nat.add_mul]; omega
theorem Stps.row {w : World} {a : Option Addr} {n cap i : Nat} {ls : List Stp} {x : Stp} (h : Stps w a n cap ls) (hx : ls[i]? = some x) :
    ∃ b off, a = some ⟨b, off, none⟩ ∧ w.rangeAt b (off + i * 71) x.cells := by
  obtain ⟨hl, ⟨_, _, _, _, b, off, ha, hc⟩, hg⟩ := h
  have hi := (List.getElem?_eq_some_iff.1 hx).1
  refine ⟨b, off, ha (by omega), fun j v hj => ?_⟩
  have hxl := Stp.len (hg x (List.mem_of_getElem? hx))
  have hj' := (List.getElem?_eq_some_iff.1 hj).1
  have := sflat_at hg hx (k := j) (by omega)
  have h2 := hc (i * 71 + j) v (by rw [this]; exact hj)
  rwa [← Nat.add_assoc] at h2
theorem Rd.past {w w' : World} {size mb m : Nat} {M : List Nat → Option Value} {a : Option Addr} {n cap : Nat} {xs : List Value} (h : Rd w size a n cap xs) (hm : MapIs EH w mb M m) (hf : Far mb w w') : Rd w' size a n cap xs := by
  obtain ⟨h1, h2, h3, h4, b, off, ha, hc⟩ := h
  refine ⟨h1, h2, h3, h4, b, off, ha, fun j u hu => ?_⟩
  have hc' := hc j u hu
  obtain ⟨D, ⟨es, clock, hb, _⟩, _⟩ := hm
  have hne : b ≠ mb := by
    intro e
    subst e
    simp [World.cell?, hb] at hc'
  rw [World.cell?_of_block (hf.block b (World.block_lt_of_cell? w _ hc') (by simpa using hne))]
  exact hc'
theorem SlV.past {w w' : World} {mb m : Nat} {M : List Nat → Option Value} {v : Value} {xs : List Nat} {k : IntKind} (h : SlV k w v xs) (hm : MapIs EH w mb M m) (hf : Far mb w w') : SlV k w' v xs := by
  obtain ⟨a, cap, rfl, h1⟩ := h
  exact ⟨a, cap, rfl, Rd.past h1 hm hf⟩
theorem Stps.past {w w' : World} {mb m : Nat} {M : List Nat → Option Value} {a : Option Addr} {n cap : Nat} {ls : List Stp} (h : Stps w a n cap ls) (hm : MapIs EH w mb M m) (hf : Far mb w w') : Stps w' a n cap ls := ⟨h.1, Rd.past h.2.1 hm hf, h.2.2⟩
theorem Stps.below {w w' : World} {a : Option Addr} {n cap : Nat} {ls : List Stp} (h : Stps w a n cap ls) (hb : Below w.heap.size w w') : Stps w' a n cap ls := ⟨h.1, Rd.below h.2.1 hb, h.2.2⟩
def sq (most rc ru used : Nat) : Quo := ⟨h1x, h9x, false, most, 1, rc, ru, 100, used⟩
theorem useS_good {q : Quo} {ht : Int} {u : Nat} {kept : Nat → Nat → Bool} (hs : q.st = 1) (hb : q.buy = false) (h : (useS (some q) false ht u kept).2 = 0) : useS (some q) false ht u kept = ({ q with used := q.used + u }, 0) ∧ q.used + u ≤ q.most ∧ kept q.rc q.ru = true ∧ ¬ q.til < ht := by
  by_cases h0 : u = 0
  · unfold useS at h; rw [if_pos h0] at h; cases h
  · by_cases h1 : q.til < ht
    · exfalso
      have e : holdsS (some q) ht u = (qz, 33) := by unfold holdsS; simp only; rw [if_pos hs, if_pos h1]
      unfold useS at h
      rw [if_neg h0, e, if_pos (by simp)] at h
      cases h
    · by_cases h2 : q.used + u < 18446744073709551616
      · by_cases h3 : q.most < q.used + u
        · rw [use_poor hs h1 h2 h3 h0] at h; cases h
        · have e := holds_yes (q := q) hs h1 h2
          rw [if_neg h3] at e
          by_cases h4 : kept q.rc q.ru = true
          · refine ⟨?_, by omega, h4, h1⟩
            unfold useS
            rw [if_neg h0, e, if_neg (by simp), if_neg]
            simp [hb, h4]
          · exfalso
            unfold useS at h
            rw [if_neg h0, e, if_neg (by simp), if_pos (.inr (by simpa using h4))] at h
            cases h
      · exfalso
        have e : holdsS (some q) ht u = (qz, 51) := by unfold holdsS; simp only; rw [if_pos hs, if_neg h1, if_neg h2]
        unfold useS at h
        rw [if_neg h0, e, if_pos (by simp)] at h
        cases h
/-- the round's relation -/
structure SumRel (w0 : World) (tb mb K most rc ru i U C : Nat) (v9 v10 : Value) (xs ys : List Nat) (w : World) : Prop where
  rung : Rung w0 tb mb h1x (sq most rc ru U) K w
  units : SlV .i64 w v9 xs
  coins : SlV .i64 w v10 ys
  dU : Dig xs U
  dC : Dig ys C
  le : U ≤ most
  big : C ≤ i * 18446744073709551616
  pay : C * ru ≤ U * rc
theorem SumRel.below {w0 w w' : World} {tb mb K most rc ru i U C : Nat} {v9 v10 : Value} {xs ys : List Nat} (h : SumRel w0 tb mb K most rc ru i U C v9 v10 xs ys w) (b : Below w.heap.size w w') : SumRel w0 tb mb K most rc ru i U C v9 v10 xs ys w' :=
  ⟨h.rung.below b, h.units.below b, h.coins.below b, h.dU, h.dC, h.le, h.big, h.pay⟩
/-- behind a sale -/
structure SoldRel (w0 : World) (tb mb K most rc ru A : Nat) (v9 v10 : Value) (xs ys : List Nat) (w : World) : Prop where
  rung : Rung w0 tb mb h1x (sq most rc ru A) K w
  units : SlV .i64 w v9 xs
  coins : SlV .i64 w v10 ys
theorem SoldRel.below {w0 w w' : World} {tb mb K most rc ru A : Nat} {v9 v10 : Value} {xs ys : List Nat} (h : SoldRel w0 tb mb K most rc ru A v9 v10 xs ys w) (b : Below w.heap.size w w') : SoldRel w0 tb mb K most rc ru A v9 v10 xs ys w' :=
  ⟨h.rung.below b, h.units.below b, h.coins.below b⟩
theorem SumRel.sold {w0 w w' : World} {tb mb K most rc ru i U C A k : Nat} {v9 v10 : Value} {xs ys : List Nat} {e : Ending} {r : Quo × Nat} (h : SumRel w0 tb mb K most rc ru i U C v9 v10 xs ys w)
    (t : TRes w tb mb (resM (M1 h1x (sq most rc ru U)) h1x r) 1 r.2 e w') (hk : r.2 = k) (hq : nextQ (sq most rc ru U) r = sq most rc ru A) : e = .returned (.int .i64 (k : Int)) ∧ SoldRel w0 tb mb K most rc ru A v9 v10 xs ys w' := by
  have g := h.rung.go t hk hq
  have f := t.2.2
  have m := h.rung.tab.map
  exact ⟨g.1, g.2, h.units.past m f, h.coins.past m f⟩
theorem sold_walk {w0 w : World} {tb mb K most rc ru i U C A k : Nat} {v9 v10 : Value} {xs ys : List Nat} (h : SumRel w0 tb mb K most rc ru i U C v9 v10 xs ys w) (ht : Int) (u c : Nat) (hu : u < 18446744073709551616) (hc : c < 18446744073709551616)
    (hk : (useS (some (sq most rc ru U)) false ht u (fun rc ru => payB u rc c ru)).2 = k) (hq : nextQ (sq most rc ru U) (useS (some (sq most rc ru U)) false ht u (fun rc ru => payB u rc c ru)) = sq most rc ru A) :
    Calls Try.prog 13 #[.pointer (some ⟨tb, 0, none⟩), .agg (nums .u8 h1x).toArray, .int .i64 ht, .int .u64 u, .int .u64 c] w (fun e w' => e = .returned (.int .i64 (k : Int)) ∧ SoldRel w0 tb mb K most rc ru A v9 v10 xs ys w' ∧ Far mb w w') := by
  refine (tsell_walk tb mb 1 (M1 h1x (sq most rc ru U)) h1x h1_ok ht u c hu hc w h.rung.tab).mono ?_
  intro e w' t
  rw [M1_at] at t
  have g := h.sold t hk hq
  exact ⟨g.1, g.2, t.2.2⟩
theorem bare_ask0 {w0 w : World} {tb mb K : Nat} {x id : List Nat} (h : Bare w0 tb mb x K w) (hx : EH.ok x) (hi : EH.ok id) (buy : Bool) :
    Calls Try.prog 10 #[.pointer (some ⟨tb, 0, none⟩), .agg (nums .u8 x).toArray, .agg (nums .u8 id).toArray, .bool buy, .int .u64 0] w (fun e w' => e = .returned (.int .i64 1) ∧ Below w0.heap.size w0 w') := by
  refine (ask_walk tb mb 0 (fun _ => none) x id hx hi buy 0 (by decide) w h.tab).mono ?_
  intro e w' t
  have hc : askC (fun _ => none) 0 x id 0 = 1 := by
    unfold askC
    rw [if_pos (.inl rfl)]
  rw [hc] at t
  exact ⟨t.1, h.bel.trans (t.2.2.below h.low h.bel.size)⟩
theorem acc_badS {most rc ru : Nat} (h : rc = 0 ∨ ru = 0) : accS (some (askQ h1x h9x false most)) rc ru 100 = (qz, 60) := by
  unfold accS
  rw [if_neg (by decide), if_pos h]
theorem acc_goodS {most rc ru : Nat} (h : ¬ (rc = 0 ∨ ru = 0)) : accS (some (askQ h1x h9x false most)) rc ru 100 = (sq most rc ru 0, 0) := by
  unfold accS
  rw [if_neg (by decide), if_neg h]
  rfl
theorem rung_get {w0 w : World} {tb mb K : Nat} {x : List Nat} {q : Quo} (h : Rung w0 tb mb x q K w) (hx : EH.ok x) :
    Calls Try.prog 16 #[.pointer (some ⟨tb, 0, none⟩), .agg (nums .u8 x).toArray] w (fun e w' => e = .returned (.tuple #[.agg q.cells.toArray, .bool true]) ∧ Below w.heap.size w w') := by
  refine (tget_walk tb mb 1 (M1 x q) x hx w h.tab).mono ?_
  rintro e w' ⟨he, hb⟩
  rw [M1_at] at he
  exact ⟨he, hb⟩
theorem infoSa {x : Stp} (h : x.ok) : (Try.prog.info? 38).map (·.size) = some x.cells.toArray.size := by rw [List.size_toArray, Stp.len h]; exact infoS
theorem infoSl {x : Stp} (h : x.ok) : (Try.prog.info? 38).map (·.size) = some x.cells.length := by rw [Stp.len h]; exact infoS
theorem zS_as {x : Stp} (h : x.ok) : zS.size = x.cells.toArray.size := zS_size.trans (by rw [List.size_toArray, Stp.len h])
theorem sq_ok {most rc ru U : Nat} (h1 : most < 18446744073709551616) (h2 : rc < 18446744073709551616) (h3 : ru < 18446744073709551616) (h4 : U < 18446744073709551616) : (sq most rc ru U).ok :=
  ⟨h1_ok.1, h1_ok.2, h9_ok.1, h9_ok.2, h1, h2, h3, h4, show (Lit.int .i64 1).wf = true by decide, show (Lit.int .i64 100).wf = true by decide⟩
def CmpB (w : World) (x y : Nat) (e : Ending) (w' : World) : Prop := e = .returned (.int .i64 (cmpI x y)) ∧ Below w.heap.size w w'
theorem cmp_two {a a' : Option Addr} {c c' x y : Nat} {xs ys : List Nat} {u v : World} (hx : x < 18446744073709551616 * 18446744073709551616) (hy : y < 18446744073709551616 * 18446744073709551616) (s : Sl .i64 u a xs.length c xs) (d : Dig xs x) (b : Below u.heap.size u v) (s' : Sl .i64 v a' ys.length c' ys) (d' : Dig ys y) :
    Calls Try.prog 18 #[.slice a xs.length c, .slice a' ys.length c'] v (CmpB v x y) := by
  have l1 := d.len16 hx
  have l2 := d'.len16 hy
  exact (cmp_walk a a' _ _ _ _ x y xs ys (by omega) (by omega) v (s.below b) d s' d').mono fun e w' ⟨he, hq⟩ => ⟨he, hq.below _⟩
def WhenSum (w0 : World) (tb mb K most rc ru n : Nat) (v9 v10 x11 : Value) (wr : World) : Prop :=
  ∃ (i U C : Nat) (xs ys : List Nat), i ≤ n ∧ i ≤ 80 ∧ x11 = .int .i64 i ∧ SumRel w0 tb mb K most rc ru i U C v9 v10 xs ys wr
set_option maxRecDepth 100000 in
set_option maxHeartbeats 8000000 in
theorem lawSums (rc ru most : Nat) (a : Option Addr) (n cap : Nat) (ls : List Stp) (hrc : rc < 18446744073709551616) (hru : ru < 18446744073709551616) (hm : most < 18446744073709551616) (hn : n ≤ 9223372036854775807) (w : World) (hS : Stps w a n cap ls) :
    Calls Try.prog 3 #[rateV rc ru, .int .u64 most, .slice a n cap] w (fun e w' => e = .returned (.bool true) ∧ Below w.heap.size w w') := by
  have un := Try.underlying30
  have hiH : (Try.prog.info? 30).map (·.size) = some (nums .u8 h1x).length := by kernel_rfl
  have hiA : (Try.prog.info? 30).map (·.size) = some (nums .u8 h1x).toArray.size := by kernel_rfl
  have h1o := hid (all_oneCell_toArray (nums_oneCell .u8 h1x))
  have bb := (Below.refl w.heap.size w).alloc (Nat.le_refl _) (.cells #[.int .u64 (rc : Int), .int .u64 (ru : Int)] 24)
  have X := hid (Bx2.new w rc ru 24)
  have HB := hid bb
  have HS := hid hS
  clear bb hS
  go_enter Try.func3, Try.ntmps3
  go_wp2_with (fail)
  refine (thead_walk _).mono ?_
  rintro e w0 ⟨rfl, b0⟩
  have B0 := hid (bstep HB.out b0)
  have X0 := hid (X.out.below b0)
  have S0 := hid (HS.out.below B0.out)
  clear b0 X HB HS
  generalize hBB : w.heap.size = BX at *
  go_wp2_with (fail)
  refine (tnew_walk w0).mono ?_
  rintro e w1 ⟨tb, mb, rfl, t1, l1, l2, b1⟩
  have T1 := hid t1
  have L2 := hid l2
  have B1 := hid b1
  clear t1 l1 l2 b1
  go_upto_region 5 with (refine wpList_store_row rfl _ _ _ rfl w1.heap.size (nums .u8 h1x).toArray rfl rfl _ _ (heap_alloc_new w1 _) hiA rfl h1o.out ?_)
  have R0 := fun z => hid (bare_new (z := z) B1.out T1.out L2.out rfl)
  generalize hK : w1.heap.size = K at *
  generalize hW : World.setRow _ K _ = w2
  replace R0 := hid (hW ▸ (R0 _).out : Bare w0 tb mb h1x K w2)
  clear hW hK B1 T1 L2
  have f := R0.out.key
  go_wp2_with (first | refine wpList_load_mid rfl _ _ rfl K 0 rfl (nums .u8 h1x) _ f un rfl hiH ?_ | refine wpList_load_midG rfl _ _ rfl K 0 rfl (nums .u8 h1x) _ f un rfl hiH ?_)
  by_cases hm0 : most = 0
  · subst hm0
    refine (bare_ask0 (id := h9x) R0.out h1_ok h9_ok false).mono ?_
    rintro e w3 ⟨rfl, b3⟩
    have B3 := hid b3
    clear b3 R0 f
    go_wp2
    go_ret
    exact ⟨rfl, by rw [hBB]; exact B0.out.trans (B3.out.mono (by have := B0.out.size; have := X0.out.1; have := World.block_lt_of_cell? w0 _ this; omega))⟩
  have tm : ((most : Int) == 0) = false := by simp; omega
  refine (bare_ask (id := h9x) R0.out h1_ok h9_ok false most hm hm0 h9_ne).mono ?_
  rintro e w3 ⟨rfl, r⟩
  have R1 := hid r
  obtain ⟨x0, x1, _⟩ := X0.out.below R1.out.bel
  clear R0 r f
  have f := R1.out.key
  go_wp2_with (first | refine wpList_load_mid rfl _ _ rfl K 0 rfl (nums .u8 h1x) _ f un rfl hiH ?_ | refine wpList_load_midG rfl _ _ rfl K 0 rfl (nums .u8 h1x) _ f un rfl hiH ?_)
  by_cases hz : rc = 0 ∨ ru = 0
  · refine (rung_acc (q' := askQ h1x h9x false most) (k := 60) R1.out h1_ok rc ru 100 hrc hru (by decide) (by rw [acc_badS hz]) (by rw [acc_badS hz]; rfl)).mono ?_
    rintro e w4 ⟨rfl, r⟩
    have R2 := hid r
    clear R1 r f x0 x1
    obtain ⟨x0, x1, _⟩ := X0.out.below R2.out.bel
    go_wp2_with (fail)
    refine (check_walk rc ru _).mono ?_
    rintro e w5 ⟨rfl, b5⟩
    rw [chk_bad hz]
    have R3 := hid (R2.out.below b5)
    clear R2 b5 x0 x1
    go_wp2
    go_ret
    exact ⟨rfl, by rw [hBB]; exact B0.out.trans (R3.out.bel.mono (by have := B0.out.size; have := X0.out.1; have := World.block_lt_of_cell? w0 _ this; omega))⟩
  refine (rung_acc (q' := sq most rc ru 0) (k := 0) R1.out h1_ok rc ru 100 hrc hru (by decide) (by rw [acc_goodS hz]) (by rw [acc_goodS hz]; rfl)).mono ?_
  rintro e w4 ⟨rfl, r⟩
  have R2 := hid r
  clear R1 r f x0 x1 tm
  have S0r := hid (show SumRel w0 tb mb K most rc ru 0 0 0 (.slice (some ⟨w4.heap.size, 0, none⟩) 0 0) (.slice (some ⟨w4.heap.size + 1, 0, none⟩) 0 0) [] [] ((w4.alloc (.cells #[] 3)).alloc (.cells #[] 3)) from
    ⟨R2.out.below (((Below.refl _ _).alloc (Nat.le_refl _) _).alloc (by simp) _), (Sl.nilS _ _ (by omega) (fun e => by cases e)).toV, (Sl.nilS _ _ (by omega) (fun e => by cases e)).toV, Dig.nil, Dig.nil, Nat.zero_le _, by omega, by omega⟩)
  clear R2
  have O1 := fun wx => hid (of_walk ru hru wx)
  have O2 := fun wx => hid (of_walk rc hrc wx)
  have ZS := zeroS
  have hneS := zS_ne
  have ZQ := zeroQ
  have hneQ := zQ_ne
  have unS := Try.underlying38
  go_wp2
  go_loopw [9, 10, 11] (fun v9 v10 x11 wr => WhenSum w0 tb mb K most rc ru n v9 v10 x11 wr) (fun _ _ x11 _ => n - (intOf x11).toNat)
  case atStart => exact ⟨0, 0, 0, [], [], by omega, by omega, rfl, S0r.out⟩
  case round =>
    obtain ⟨i, U, C, xs, ys, hi, hi8, rfl, hR⟩ := hrel
    have HR := hid hR
    clear hR S0r
    by_cases hlt : i < n
    · by_cases h8 : i < 80
      · obtain ⟨x, hx⟩ : ∃ x, ls[i]? = some x := ⟨ls[i]'(by have := S0.out.1; omega), List.getElem?_eq_getElem _⟩
        obtain ⟨bS, offS, hbS, row⟩ := (S0.out.below HR.out.rung.bel).row hx
        have XOK := hid (S0.out.2.2 x (List.mem_of_getElem? hx))
        have hxa := XOK.out.ab
        have hxb := XOK.out.bb
        have hsi := hid (infoSa XOK.out)
        have hsl := hid (infoSl XOK.out)
        have hsz := hid (zS_as XOK.out)
        have hso := hid (all_oneCell_toArray (Stp.one x))
        subst hbS
        clear hx
        go_upto_region 13 with (first | refine wpList_load_mid rfl _ _ rfl bS (offS + i * 71) rfl x.cells _ row unS rfl hsl.out ?_ | refine wpList_store_row rfl _ _ _ rfl wr.heap.size x.cells.toArray rfl rfl _ _ (heap_alloc_new wr _) hsi.out hsz.out hso.out ?_)
        have L := laid wr zS x.cells.toArray 38
        generalize (wr.alloc (.cells zS 38)).setRow wr.heap.size x.cells.toArray = w6 at *
        have c66 := gen_cell (row_range L.1) (Stp.get XOK.out 1)
        have c67 := gen_cell (row_range L.1) (Stp.get XOK.out 2)
        have c70 := gen_cell (row_range L.1) (Stp.get XOK.out 5)
        replace c66 : w6.cell? ⟨wr.heap.size, 66, none⟩ = some (.int .u64 (x.a : Int)) := c66
        replace c67 : w6.cell? ⟨wr.heap.size, 67, none⟩ = some (.int .u64 (x.b : Int)) := c67
        replace c70 : w6.cell? ⟨wr.heap.size, 70, none⟩ = some (.int .i64 x.h) := c70
        have HR6 := hid (HR.out.below L.2)
        have hG := hid (show wr.heap.size ≠ mb from by have := HR.out.rung.tab.map.lt; omega)
        have dU := HR.out.dU
        have dC := HR.out.dC
        have uLe := HR.out.le
        have uBig := HR.out.big
        have hpay := HR.out.pay
        generalize wr.heap.size = G at *
        clear L HR row hsi hsl hsz hso
        generalize hxA : x.a = xA at *
        generalize hxB : x.b = xB at *
        generalize hxH : x.h = xH at *
        have f := HR6.out.rung.key
        go_wp2_with (first | refine wpList_load_mid rfl _ _ rfl K 0 rfl (nums .u8 h1x) _ f un rfl hiH ?_ | refine wpList_load_midG rfl _ _ rfl K 0 rfl (nums .u8 h1x) _ f un rfl hiH ?_)
        obtain ⟨r, hr⟩ : ∃ r, r = useS (some (sq most rc ru U)) false xH xA (fun rc ru => payB xA rc xB ru) := ⟨_, rfl⟩
        by_cases hk : r.2 = 0
        · rw [hr] at hk
          obtain ⟨he, hle, hkp, hth⟩ := useS_good rfl rfl hk
          replace hle : U + xA ≤ most := hle
          replace hkp : payB xA rc xB ru = true := hkp
          rw [payB_ok hz, decide_eq_true_eq] at hkp
          have th : decide (xH > 100) = false := decide_eq_false hth
          have th2 : ¬ (100 : Int) < xH := hth
          have hnx := hid (show (C + xB) * ru ≤ (U + xA) * rc by rw [Nat.add_mul, Nat.add_mul]; omega)
          have hbg := hid (show C + xB ≤ (i + 1) * 18446744073709551616 by rw [Nat.add_mul]; omega)
          refine (sold_walk HR6.out xH xA xB hxa hxb (k := 0) (A := U + xA) hk (by rw [he]; rfl)).mono ?_
          rintro e w7 ⟨rfl, r7, f7⟩
          have c66' := far_cell f7 c66 hG.out
          have c67' := far_cell f7 c67 hG.out
          have c70' := far_cell f7 c70 hG.out
          obtain ⟨a9, c9, rfl, s9⟩ := r7.units
          obtain ⟨a10, c10, rfl, s10⟩ := r7.coins
          have R7 := hid r7.rung
          have l9 := dU.len8 (by omega)
          have l10 : ys.length ≤ 9 := dC.len_le (by omega)
          clear c66 c67 c70 r7 f7 HR6 f he hkp hr hk hpay hth
          go_wp2_with (fail)
          refine (of_walk xA hxa _).mono ?_
          rintro e w8 ⟨v1, y1, rfl, d1, ⟨a1, c1, rfl, s1⟩, b1⟩
          have lA := d1.len8 hxa
          go_wp2_with (fail)
          refine (add_walk a9 a1 _ _ _ _ U xA xs y1 (by omega) (by omega) _ (s9.below b1) dU s1 d1).mono ?_
          rintro e w9 ⟨v2, y2, rfl, d2, s2, b2⟩
          have b12 := bstep b1 b2
          have C67 := cell_keep b12 c67'
          have C70 := cell_keep b12 c70'
          have R9 := hid (R7.out.below b12)
          have s10' := s10.below b12
          clear b1 b2 b12 c66' c67' c70' R7 s9 s10 s1
          go_wp2_with (fail)
          refine (of_walk xB hxb _).mono ?_
          rintro e w10 ⟨v3, y3, rfl, d3, ⟨a3, c3, rfl, s3⟩, b3⟩
          have lB := d3.len8 hxb
          go_wp2_with (fail)
          refine (add_walk a10 a3 _ _ _ _ C xB ys y3 (by omega) (by omega) _ (s10'.below b3) dC s3 d3).mono ?_
          rintro e w11 ⟨v4, y4, rfl, d4, s4, b4⟩
          have b34 := bstep b3 b4
          have D70 := cell_keep b34 C70
          have S2 := s2.below b34
          have R11 := hid (R9.out.below b34)
          clear b3 b4 b34 C67 C70 R9 s10' s3 s2
          go_wp2
          go_roundw
          case rel => exact ⟨i + 1, U + xA, C + xB, y2, y4, by omega, by omega, by go_num, R11.out, S2, s4, d2, d4, hle, hbg.out, hnx.out⟩
          case measure => simp [intOf]; omega
        · obtain ⟨k, hk2⟩ : ∃ k, r.2 = k := ⟨_, rfl⟩
          have hk0 : k ≠ 0 := by rw [← hk2]; exact hk
          have tk : ((k : Int) == 0) = false := by simp; exact hk0
          have tk2 : ¬ (k : Int) = 0 := by omega
          rw [hr] at hk hk2
          have hbg := hid (show C ≤ (i + 1) * 18446744073709551616 from Nat.le_trans uBig (Nat.mul_le_mul_right _ (Nat.le_succ i)))
          refine (sold_walk HR6.out xH xA xB hxa hxb (k := k) (A := U) hk2 (by unfold nextQ; rw [if_neg hk])).mono ?_
          rintro e w7 ⟨rfl, r7, f7⟩
          have R7 := hid r7
          clear c66 c67 c70 r7 f7 HR6 f hr hk hk2
          go_wp2
          go_roundw
          case rel => exact ⟨i + 1, U, C, xs, ys, by omega, by omega, by go_num, R7.out.rung, R7.out.units, R7.out.coins, dU, dC, uLe, hbg.out, hpay⟩
          case measure => simp [intOf]; omega
      · obtain rfl : i = 80 := by omega
        obtain ⟨a9, c9, rfl, s9⟩ := HR.out.units
        obtain ⟨a10, c10, rfl, s10⟩ := HR.out.coins
        have dU := HR.out.dU
        have dC := HR.out.dC
        have uLe := HR.out.le
        have hpay := HR.out.pay
        have U64 : U < 18446744073709551616 := by omega
        have l9 := dU.len8 U64
        have l10 : ys.length ≤ 9 := dC.len_le (by have := HR.out.big; omega)
        have p1 : U * rc < 18446744073709551616 * 18446744073709551616 := Nat.mul_lt_mul'' U64 hrc
        have p2 : C * ru < 18446744073709551616 * 18446744073709551616 := by omega
        have QOK := hid (sq_ok hm hrc hru U64)
        have hq0i := hid (infoQa QOK.out)
        have hq0z := hid (zQ_as QOK.out)
        have hq0o := hid (all_oneCell_toArray (Quo.one (sq most rc ru U)))
        have f := HR.out.rung.key
        go_wp2_with (first | refine wpList_load_mid rfl _ _ rfl K 0 rfl (nums .u8 h1x) _ f un rfl hiH ?_ | refine wpList_load_midG rfl _ _ rfl K 0 rfl (nums .u8 h1x) _ f un rfl hiH ?_)
        refine (rung_get HR.out.rung h1_ok).mono ?_
        rintro e wA ⟨rfl, bA⟩
        have HRA := hid (HR.out.rung.below bA)
        have sA := s9.below bA
        have tA := s10.below bA
        clear bA s9 s10 f HR
        go_upto_region 19 with (refine wpList_store_row rfl _ _ _ rfl wA.heap.size (sq most rc ru U).cells.toArray rfl rfl _ _ (heap_alloc_new wA _) hq0i.out hq0z.out hq0o.out ?_)
        have L := laid wA zQ (sq most rc ru U).cells.toArray 43
        generalize (wA.alloc (.cells zQ 43)).setRow wA.heap.size (sq most rc ru U).cells.toArray = wB at *
        have c70 := gen_cell (row_range L.1) (Quo.get QOK.out 6)
        have HRB := hid (HRA.out.below L.2)
        have sB := sA.below L.2
        have tB := tA.below L.2
        generalize wA.heap.size = GQ at *
        obtain ⟨x0, x1, _⟩ := X0.out.below HRB.out.bel
        replace c70 : wB.cell? ⟨GQ, 70, none⟩ = some (.int .u64 (U : Int)) := c70
        clear L sA tA HRA hq0i hq0z hq0o QOK
        go_wp2_with (fail)
        refine (num_walk a9 _ _ U xs _ sB dU (by omega)).mono ?_
        rintro e w4' ⟨rfl, rfl⟩
        rw [if_pos U64, decide_eq_true U64]
        have tle : decide ((U : Int) ≤ most) = true := by rw [decide_eq_true_eq]; omega
        have tle2 : (U : Int) ≤ most := by omega
        have hcm : decide (cmpI (C * ru) (U * rc) ≤ 0) = true := by rw [cmp_le]; exact decide_eq_true hpay
        have hcm2 : cmpI (C * ru) (U * rc) ≤ 0 := of_decide_eq_true hcm
        go_upto_region 20 with (fail)
        have sD : Sl .i64 wB.drew a9 xs.length c9 xs := sB.below ((Below.refl _ _).drew)
        have tD : Sl .i64 wB.drew a10 ys.length c10 ys := tB.below ((Below.refl _ _).drew)
        have HRD := hid (HRB.out.below ((Below.refl _ _).drew))
        clear HRB sB tB
        go_region_held3 (fun w' => w'.cell? ⟨BX, 0, none⟩ = some (.int .u64 (rc : Int)) ∧ w'.cell? ⟨BX, 1, none⟩ = some (.int .u64 (ru : Int)) ∧ w'.cell? ⟨GQ, 70, none⟩ = some (.int .u64 (U : Int)))
          (first
            | exact ⟨x0, x1, c70⟩
            | exact ⟨cell_keep b5 (cell_keep b4 (cell_keep b3 (cell_keep b2 (cell_keep b1 x0)))), cell_keep b5 (cell_keep b4 (cell_keep b3 (cell_keep b2 (cell_keep b1 x1)))), cell_keep b5 (cell_keep b4 (cell_keep b3 (cell_keep b2 (cell_keep b1 c70))))⟩
            | exact ⟨cell_keep b4 (cell_keep b3 (cell_keep b2 (cell_keep b1 x0))), cell_keep b4 (cell_keep b3 (cell_keep b2 (cell_keep b1 x1))), cell_keep b4 (cell_keep b3 (cell_keep b2 (cell_keep b1 c70)))⟩
            | exact ⟨cell_keep b3 (cell_keep b2 (cell_keep b1 x0)), cell_keep b3 (cell_keep b2 (cell_keep b1 x1)), cell_keep b3 (cell_keep b2 (cell_keep b1 c70))⟩
            | exact ⟨cell_keep b2 (cell_keep b1 x0), cell_keep b2 (cell_keep b1 x1), cell_keep b2 (cell_keep b1 c70)⟩
            | exact ⟨cell_keep b1 x0, cell_keep b1 x1, cell_keep b1 c70⟩)
          (first
            | (go_at_call 15; (with_reducible refine (O1 _).out.mono ?_); rintro e w21 ⟨v1, y1, rfl, d1, ⟨a1, c1, rfl, s1⟩, b1⟩)
            | (go_at_call 19; (with_reducible refine (mul_walk a10 a1 _ _ _ _ C ru ys y1 (by omega) (by have := d1.len8 hru; omega) _ (tD.below b1) dC s1 d1).mono ?_); rintro e w22 ⟨v2, y2, rfl, d2, ⟨a2, c2, rfl, s2⟩, b2⟩)
            | (go_at_call 15; (with_reducible refine (O2 _).out.mono ?_); rintro e w23 ⟨v3, y3, rfl, d3, ⟨a3, c3, rfl, s3⟩, b3⟩)
            | (go_at_call 19; (with_reducible refine (mul_walk a9 a3 _ _ _ _ U rc xs y3 (by omega) (by have := d3.len8 hrc; omega) _ ((sD.below (bstep b1 b2)).below b3) dU s3 d3).mono ?_); rintro e w24 ⟨v4, y4, rfl, d4, ⟨a4, c4, rfl, s4⟩, b4⟩)
            | (go_at_call 18; (refine (cmp_two p2 p1 s2 d2 (bstep b3 b4) s4 d4).mono ?_); rintro e w25 ⟨rfl, b5⟩))
        have HRE := hid (((HRD.out.below b1).below b2).below (bstep (bstep b3 b4) b5))
        clear x0 x1 c70 sD tD
        go_wp2
        go_ret
        exact ⟨rfl, by rw [hBB]; exact B0.out.trans (HRE.out.bel.mono (by have := B0.out.size; have := X0.out.1; have := World.block_lt_of_cell? w0 _ this; omega))⟩
    · obtain rfl : i = n := by omega
      obtain ⟨a9, c9, rfl, s9⟩ := HR.out.units
      obtain ⟨a10, c10, rfl, s10⟩ := HR.out.coins
      have dU := HR.out.dU
      have dC := HR.out.dC
      have uLe := HR.out.le
      have hpay := HR.out.pay
      have U64 : U < 18446744073709551616 := by omega
      have l9 := dU.len8 U64
      have l10 : ys.length ≤ 9 := dC.len_le (by have := HR.out.big; omega)
      have p1 : U * rc < 18446744073709551616 * 18446744073709551616 := Nat.mul_lt_mul'' U64 hrc
      have p2 : C * ru < 18446744073709551616 * 18446744073709551616 := by omega
      have QOK := hid (sq_ok hm hrc hru U64)
      have hq0i := hid (infoQa QOK.out)
      have hq0z := hid (zQ_as QOK.out)
      have hq0o := hid (all_oneCell_toArray (Quo.one (sq most rc ru U)))
      have f := HR.out.rung.key
      go_wp2_with (first | refine wpList_load_mid rfl _ _ rfl K 0 rfl (nums .u8 h1x) _ f un rfl hiH ?_ | refine wpList_load_midG rfl _ _ rfl K 0 rfl (nums .u8 h1x) _ f un rfl hiH ?_)
      refine (rung_get HR.out.rung h1_ok).mono ?_
      rintro e wA ⟨rfl, bA⟩
      have HRA := hid (HR.out.rung.below bA)
      have sA := s9.below bA
      have tA := s10.below bA
      clear bA s9 s10 f HR
      go_upto_region 19 with (refine wpList_store_row rfl _ _ _ rfl wA.heap.size (sq most rc ru U).cells.toArray rfl rfl _ _ (heap_alloc_new wA _) hq0i.out hq0z.out hq0o.out ?_)
      have L := laid wA zQ (sq most rc ru U).cells.toArray 43
      generalize (wA.alloc (.cells zQ 43)).setRow wA.heap.size (sq most rc ru U).cells.toArray = wB at *
      have c70 := gen_cell (row_range L.1) (Quo.get QOK.out 6)
      have HRB := hid (HRA.out.below L.2)
      have sB := sA.below L.2
      have tB := tA.below L.2
      generalize wA.heap.size = GQ at *
      obtain ⟨x0, x1, _⟩ := X0.out.below HRB.out.bel
      replace c70 : wB.cell? ⟨GQ, 70, none⟩ = some (.int .u64 (U : Int)) := c70
      clear L sA tA HRA hq0i hq0z hq0o QOK
      go_wp2_with (fail)
      refine (num_walk a9 _ _ U xs _ sB dU (by omega)).mono ?_
      rintro e w4' ⟨rfl, rfl⟩
      rw [if_pos U64, decide_eq_true U64]
      have tle : decide ((U : Int) ≤ most) = true := by rw [decide_eq_true_eq]; omega
      have tle2 : (U : Int) ≤ most := by omega
      have hcm : decide (cmpI (C * ru) (U * rc) ≤ 0) = true := by rw [cmp_le]; exact decide_eq_true hpay
      have hcm2 : cmpI (C * ru) (U * rc) ≤ 0 := of_decide_eq_true hcm
      go_upto_region 20 with (fail)
      have sD : Sl .i64 wB.drew a9 xs.length c9 xs := sB.below ((Below.refl _ _).drew)
      have tD : Sl .i64 wB.drew a10 ys.length c10 ys := tB.below ((Below.refl _ _).drew)
      have HRD := hid (HRB.out.below ((Below.refl _ _).drew))
      clear HRB sB tB
      go_region_held3 (fun w' => w'.cell? ⟨BX, 0, none⟩ = some (.int .u64 (rc : Int)) ∧ w'.cell? ⟨BX, 1, none⟩ = some (.int .u64 (ru : Int)) ∧ w'.cell? ⟨GQ, 70, none⟩ = some (.int .u64 (U : Int)))
        (first
          | exact ⟨x0, x1, c70⟩
          | exact ⟨cell_keep b5 (cell_keep b4 (cell_keep b3 (cell_keep b2 (cell_keep b1 x0)))), cell_keep b5 (cell_keep b4 (cell_keep b3 (cell_keep b2 (cell_keep b1 x1)))), cell_keep b5 (cell_keep b4 (cell_keep b3 (cell_keep b2 (cell_keep b1 c70))))⟩
          | exact ⟨cell_keep b4 (cell_keep b3 (cell_keep b2 (cell_keep b1 x0))), cell_keep b4 (cell_keep b3 (cell_keep b2 (cell_keep b1 x1))), cell_keep b4 (cell_keep b3 (cell_keep b2 (cell_keep b1 c70)))⟩
          | exact ⟨cell_keep b3 (cell_keep b2 (cell_keep b1 x0)), cell_keep b3 (cell_keep b2 (cell_keep b1 x1)), cell_keep b3 (cell_keep b2 (cell_keep b1 c70))⟩
          | exact ⟨cell_keep b2 (cell_keep b1 x0), cell_keep b2 (cell_keep b1 x1), cell_keep b2 (cell_keep b1 c70)⟩
          | exact ⟨cell_keep b1 x0, cell_keep b1 x1, cell_keep b1 c70⟩)
        (first
          | (go_at_call 15; (with_reducible refine (O1 _).out.mono ?_); rintro e w21 ⟨v1, y1, rfl, d1, ⟨a1, c1, rfl, s1⟩, b1⟩)
          | (go_at_call 19; (with_reducible refine (mul_walk a10 a1 _ _ _ _ C ru ys y1 (by omega) (by have := d1.len8 hru; omega) _ (tD.below b1) dC s1 d1).mono ?_); rintro e w22 ⟨v2, y2, rfl, d2, ⟨a2, c2, rfl, s2⟩, b2⟩)
          | (go_at_call 15; (with_reducible refine (O2 _).out.mono ?_); rintro e w23 ⟨v3, y3, rfl, d3, ⟨a3, c3, rfl, s3⟩, b3⟩)
          | (go_at_call 19; (with_reducible refine (mul_walk a9 a3 _ _ _ _ U rc xs y3 (by omega) (by have := d3.len8 hrc; omega) _ ((sD.below (bstep b1 b2)).below b3) dU s3 d3).mono ?_); rintro e w24 ⟨v4, y4, rfl, d4, ⟨a4, c4, rfl, s4⟩, b4⟩)
          | (go_at_call 18; (refine (cmp_two p2 p1 s2 d2 (bstep b3 b4) s4 d4).mono ?_); rintro e w25 ⟨rfl, b5⟩))
      have HRE := hid (((HRD.out.below b1).below b2).below (bstep (bstep b3 b4) b5))
      clear x0 x1 c70 sD tD
      go_wp2
      go_ret
      exact ⟨rfl, by rw [hBB]; exact B0.out.trans (HRE.out.bel.mono (by have := B0.out.size; have := X0.out.1; have := World.block_lt_of_cell? w0 _ this; omega))⟩
end Go.Proofs.Ytibjkpejbihcpaa

/- EdgeRuns: Settled, against the law's own list. -/
import Derived.Test.YthccjefhlmngbaaDoorRn1
import Derived.Test.YthccjefhlmngbaaDoorKq
import Derived.Test.YthccjefhlmngbaaDoorRnF
namespace Go.Proofs.YthccjefhlmngbaaDoor
open Go.RowKit

set_option maxRecDepth 1000000 in
set_option maxHeartbeats 16000000 in
theorem arm1 {w0 w : World} {eb tb mb t2 m2 : Nat} {dl : Int} {B nq : Nat} {v : Value} {L : List Fw} {M : QM} {va qv sv : Value} {k R X Y : Nat} {i o : Int} {x : Ed} {T : Array Value} (h : ArmI w0 w eb tb mb t2 m2 dl B nq v L M va qv sv k R X Y i o x T) (h0 : x.k ≠ 0) (ht : Tabs w0) :
    (rnP 63).wp Tryd.prog (ArmO w0 eb tb mb t2 m2 dl B nq qv sv k) ⟨T, []⟩ w := by
  have H := hid h
  have HT := hid ht
  obtain ⟨aa, ac, rfl, rd⟩ := Rd.of_owns h.run.own
  have oo : IdxAt L (hitF x.line x.n true) o := by have := h.io; rwa [keyO, if_neg h0] at this
  have OO := hid oo
  have XOK := hid h.ok
  have r6 := row_range h.r.1.1
  have c172 : w.cell? ⟨R, 172, none⟩ = some (.int .i64 x.line) := (Ed.hasLine h.ok).one r6
  have c173 : w.cell? ⟨R, 173, none⟩ = some (.int .i64 x.n) := (Ed.hasN h.ok).one r6
  have rs : w.rangeAt R 174 (nums .u8 x.sec) := by have := (Ed.hasSec h.ok).rng r6; exact this
  have unL := Tryd.underlying42
  have un := Tryd.underlying27
  have iln := hid (show (Tryd.prog.info? 27).map (·.size) = some (nums .u8 x.sec).length by rw [nums_length, h.ok.sec.1]; exact infoH)
  rw [frameR h.s.size, h.s.t0, h.s.t1, h.s.t02, h.s.t7, h.s.t8, h.s.t9, h.s.t17, h.s.t18, h.t19, h.t20, h.t21, h.t28, h.t29, h.t30, h.t31]
  clear h h0 r6 rd oo ht
  conv => arg 2; whnf
  go_wp2_with (with_reducible refine wpList_ld R 174 (nums .u8 x.sec) rs un iln rfl rfl ?_)
  refine (settled_walk eb tb mb dl B v L M nq x.line x.n x.sec XOK.out.sec w (HT.out.below H.out.run.ses.b) H.out.run.ses.s).mono ?_
  rintro e w1 ⟨lg, kc, L1, M1, rfl, s1, k1, c1, lok⟩
  have R1 := hid (H.out.run.edge s1 k1 (Newer.refl _ _))
  have HR := hid (H.out.r.edge k1 (Newer.refl _ _))
  have HX := hid (H.out.hx.edge k1 (Newer.refl _ _))
  have HY := hid (H.out.hy.edge k1 (Newer.refl _ _))
  have C1 := hid c1
  have LOK := hid lok
  have lia := hid (infoLa lok)
  have liz := hid (show lz.cells.toArray.size = lg.cells.toArray.size from zL_as lok)
  have lio := hid (all_oneCell_toArray (Lg.one lg))
  clear s1 k1 c1 c172 c173 lok rs
  have hX1 := HX.out.1.1
  go_upto_region 67 with (with_reducible refine wpList_sr X lg.cells.toArray _ lz.cells.toArray lia liz lio rfl rfl hX1 ?_)
  have q2 := setRow_heap w1 X _ lg.cells.toArray _ _ HX.out.1.1
  have fx := far_row w1 X lg.cells.toArray
  generalize w1.setRow X lg.cells.toArray = w2 at *
  have R2 := hid (R1.out.far HX.out fx)
  have HR2 := hid (HR.out.far fx (fun e => H.out.ne.2.1 e))
  have HY2 := hid (HY.out.far fx (fun e => H.out.ne.1 e.symm))
  have HX2 := hid (HX.out.set q2)
  clear hX1 q2 fx R1 HX HY HR lia liz lio
  by_cases hi : o < 0
  case pos =>
    have t1 : decide (o < 0) = true := decide_eq_true hi
    obtain ⟨rfl, rfl, rfl, rfl⟩ : M1 = M ∧ lg = lz ∧ kc = 5 ∧ L1 = L := by
      obtain ⟨h1, c⟩ := C1.out
      rcases c with ⟨_, h2, h3, h4⟩ | ⟨j, f, hf, _⟩
      · exact ⟨h1, h2, h3, h4⟩
      · exact (hf.no (OO.out.miss hi)).elim
    clear OO C1 hi
    go_wp2_with (fail)
    exact ⟨rfl, v, _, L1, M1, 5, lz, X, Y, ⟨rfl, rfl, rfl, rfl, rfl, rfl, rfl, rfl, rfl⟩, rfl, rfl, rfl, rfl, R2.out, Nat.le_succ_of_le H.out.few, lz_ok, HX2.out.1.1, HY2.out.1.1⟩
  obtain ⟨j, f, rfl, ff⟩ := OO.out.hit hi
  have hjl := (List.getElem?_eq_some_iff.1 ff.1).1
  have fok := H.out.run.ses.s.e.ok f (List.mem_of_getElem? ff.1)
  obtain ⟨g, rfl⟩ := own_block H.out.run.own (by omega)
  have row := own_fwd R2.out.own H.out.run.ses.s.e.ok ff.1
  have rk : w2.rangeAt g (j * 204 + 105) (nums .u8 f.out.o.lock) := ((Fw.hasOut fok).trans (f.out.hasO.trans (Ofr.hasLock fok.o.o))).rng row
  have ik := hid (show (Tryd.prog.info? 27).map (·.size) = some (nums .u8 f.out.o.lock).length by rw [nums_length, fok.o.o.ll]; exact infoH)
  have rs2 : w2.rangeAt R 174 (nums .u8 x.sec) := by have := (Ed.hasSec XOK.out).rng (row_range HR2.out.1.1); exact this
  have SLs := hid (sl_mid rs2 XOK.out.sec.1)
  have T2 := hid (HT.out.below R2.out.ses.b)
  have t1 : decide ((j : Int) < 0) = false := decide_eq_false hi
  have FF := hid ff
  have FOK := hid fok
  have SW := fun (G : Nat) (wx : World) (hc : wx.cell? ⟨G, 0, none⟩ = some (.slice (some ⟨R, 174, none⟩) 32 32)) (hx' : Sl .u8 wx (some ⟨R, 174, none⟩) 32 32 x.sec) (htx : Tabs wx) => hid (sum1_walk G (some ⟨R, 174, none⟩) 32 32 x.sec wx hc hx' XOK.out.sec.2 (by decide) htx)
  unfold SumRes at SW
  unfold Go.Proofs.YthccjefhlmngbaaDoor.hv at SW
  have n1 := neq_hv (xs := sha x.sec) (ys := f.out.o.lock) (sha_len _) fok.o.o.ll (sha_lt _) fok.o.o.lb
  have g1 := guard_hv (sha x.sec) f.out.o.lock
  unfold Go.Proofs.YthccjefhlmngbaaDoor.hv at n1 g1
  obtain ⟨rfl, c2⟩ : M1 = M ∧ ((sha x.sec ≠ f.out.o.lock ∧ lg = lz ∧ kc = 31 ∧ L1 = L) ∨ (sha x.sec = f.out.o.lock ∧ ((f.st = 2 ∧ lg = lz ∧ kc = 52 ∧ L1 = L) ∨ (f.st ≠ 2 ∧ lg = f.inn ∧ kc = 0 ∧ L1 = L.set j { f with st := 1, sec := x.sec })))) := by
    obtain ⟨h1, c⟩ := C1.out
    refine ⟨h1, ?_⟩
    rcases c with ⟨hn, _⟩ | ⟨j', f', hf, hc⟩
    · exact (ff.no hn).elim
    · obtain ⟨rfl, rfl⟩ := ff.one hf
      rcases hc with h | ⟨h, k⟩ | ⟨h, k⟩
      · exact .inl h
      · exact .inr ⟨h, .inl k⟩
      · exact .inr ⟨h, .inr k⟩
  have LT := hid hjl
  clear C1 hi ff OO fok row rs2
  go_upto_region 69 with (fail)
  rcases c2 with ⟨hs, rfl, rfl, rfl⟩ | ⟨hs, c2⟩
  · rw [decide_eq_false hs] at n1
    simp only [Bool.not_false] at n1
    refine wp_region_held_drew (S := fun w' => Below w2.heap.size w2 w') (by kernel_rfl) ((Below.refl _ _).drew) (fun hHeld => ?_)
    try simp only [List.size_toArray, List.length_cons, List.length_nil, Nat.reduceAdd, Array.replicate_succ, Array.replicate_zero, List.push_toArray, List.nil_append, List.cons_append]
    refine wpAnyH_take (i := 0) (oi := { dst := some 409, op := Op.fieldAddr 60 (Operand.tmp 19) 7, type := 0, pos := "law.go:154", after := #[], guard := none }) (v := ?v1001) rfl (by kernel_rfl) (by kernel_rfl) (by kernel_rfl) (fun _ _ _ h => h) (Or.inl ⟨by rfl, ?hy1001⟩) hHeld ?_
    case hy1001 => (intro w hSw; (try dsimp only at hSw); go_simp; (try with_reducible rfl))
    (try simp only [Act.put, List.setIfInBounds_toArray, List.set_cons_zero, List.set_cons_succ])
    refine wpAnyH_take (i := 1) (oi := { dst := some 410, op := Op.slice 27 (Operand.tmp 409) none none none, type := 65, pos := "law.go:154", after := #[{ on := 0, ground := Ground.data }], guard := none }) (v := ?v1002) rfl (by kernel_rfl) (by kernel_rfl) (by kernel_rfl) (fun _ _ _ h => h) (Or.inl ⟨by rfl, ?hy1002⟩) hHeld ?_
    case hy1002 => (intro w hSw; (try dsimp only at hSw); go_simp; (try with_reducible rfl))
    (try simp only [Act.put, List.setIfInBounds_toArray, List.set_cons_zero, List.set_cons_succ])
    refine wpAnyH_take (i := 4) (oi := { dst := some 413, op := Op.move (Operand.tmp 17), type := 51, pos := "law.go:154", after := #[], guard := none }) (v := ?v1003) rfl (by kernel_rfl) (by kernel_rfl) (by kernel_rfl) (fun _ _ _ h => h) (Or.inl ⟨by rfl, ?hy1003⟩) hHeld ?_
    case hy1003 => (intro w hSw; (try dsimp only at hSw); go_simp; (try with_reducible rfl))
    (try simp only [Act.put, List.setIfInBounds_toArray, List.set_cons_zero, List.set_cons_succ])
    refine wpAnyH_take (i := 5) (oi := { dst := some 414, op := Op.move (Operand.tmp 21), type := 3, pos := "law.go:154", after := #[], guard := none }) (v := ?v1004) rfl (by kernel_rfl) (by kernel_rfl) (by kernel_rfl) (fun _ _ _ h => h) (Or.inl ⟨by rfl, ?hy1004⟩) hHeld ?_
    case hy1004 => (intro w hSw; (try dsimp only at hSw); go_simp; (try with_reducible rfl))
    (try simp only [Act.put, List.setIfInBounds_toArray, List.set_cons_zero, List.set_cons_succ])
    refine wpAnyH_take (i := 6) (oi := { dst := some 415, op := Op.indexAddr 51 (Operand.tmp 413) (Operand.tmp 414), type := 0, pos := "law.go:154", after := #[{ on := 4, ground := Ground.data }, { on := 5, ground := Ground.data }], guard := none }) (v := ?v1005) rfl (by kernel_rfl) (by kernel_rfl) (by kernel_rfl) (fun _ _ _ h => h) (Or.inl ⟨by rfl, ?hy1005⟩) hHeld ?_
    case hy1005 => (intro w hSw; (try dsimp only at hSw); go_simp; (try with_reducible rfl))
    (try simp only [Act.put, List.setIfInBounds_toArray, List.set_cons_zero, List.set_cons_succ])
    refine wpAnyH_take (i := 7) (oi := { dst := some 416, op := Op.fieldAddr 62 (Operand.tmp 415) 1, type := 0, pos := "law.go:154", after := #[{ on := 6, ground := Ground.data }], guard := none }) (v := ?v1006) rfl (by kernel_rfl) (by kernel_rfl) (by kernel_rfl) (fun _ _ _ h => h) (Or.inl ⟨by rfl, ?hy1006⟩) hHeld ?_
    case hy1006 => (intro w hSw; (try dsimp only at hSw); go_simp; (try with_reducible rfl))
    (try simp only [Act.put, List.setIfInBounds_toArray, List.set_cons_zero, List.set_cons_succ])
    refine wpAnyH_take (i := 8) (oi := { dst := some 417, op := Op.fieldAddr 42 (Operand.tmp 416) 1, type := 0, pos := "law.go:154", after := #[{ on := 7, ground := Ground.data }], guard := none }) (v := ?v1007) rfl (by kernel_rfl) (by kernel_rfl) (by kernel_rfl) (fun _ _ _ h => h) (Or.inl ⟨by rfl, ?hy1007⟩) hHeld ?_
    case hy1007 => (intro w hSw; (try dsimp only at hSw); go_simp; (try with_reducible rfl))
    (try simp only [Act.put, List.setIfInBounds_toArray, List.set_cons_zero, List.set_cons_succ])
    refine wpAnyH_take (i := 9) (oi := { dst := some 418, op := Op.fieldAddr 40 (Operand.tmp 417) 4, type := 0, pos := "law.go:154", after := #[{ on := 8, ground := Ground.data }], guard := none }) (v := ?v1008) rfl (by kernel_rfl) (by kernel_rfl) (by kernel_rfl) (fun _ _ _ h => h) (Or.inl ⟨by rfl, ?hy1008⟩) hHeld ?_
    case hy1008 => (intro w hSw; (try dsimp only at hSw); go_simp; (try with_reducible rfl))
    (try simp only [Act.put, List.setIfInBounds_toArray, List.set_cons_zero, List.set_cons_succ])
    refine' wpAnyH_take (i := 10) (oi := { dst := some 419, op := Op.load 27 (Operand.tmp 418), type := 27, pos := "law.go:154", after := #[{ on := 9, ground := Ground.data }], guard := none }) (v := _) rfl (by kernel_rfl) (by kernel_rfl) (by kernel_rfl) (fun _ _ _ h => h) (yieldsIf_load_mid (by rfl) _ _ rfl g (j * 204 + 105) rfl (nums .u8 f.out.o.lock) _ (fun _ h => range_keep h rk) un rfl ik.out) hHeld ?_
    (try simp only [Act.put, List.setIfInBounds_toArray, List.set_cons_zero, List.set_cons_succ])
    refine wpAnyH_ready (rs := [2]) (by kernel_rfl) (by simp) ?_
    refine AllReadyH.cons (o := { dst := some 411, op := Op.buildSlice 88 1 #[(0, Operand.tmp 410)], type := 88, pos := "law.go:154", after := #[{ on := 1, ground := Ground.data }], guard := none }) rfl (fun K hK => ?_) ?_
    go_simp; (first | refine newZ ?_ | refine newZd ?_); intro wp hp bp; have HP := hid hp; have BP := hid bp; clear hp bp
    refine hK.out _ _ (by first | exact hHeld.trans (BP.out.mono hHeld.size) | exact BP.out) (fun hHeld => ?_)
    clear hK K
    (try simp only [List.setIfInBounds_toArray, List.set_cons_zero, List.set_cons_succ])
    refine wpAnyH_ready (rs := [3]) (by kernel_rfl) (by simp) ?_
    refine AllReadyH.cons (o := { dst := some 412, op := Op.call { callee := Callee.value (Operand.func 21), args := #[Operand.tmp 411], argTypes := #[88] }, type := 27, pos := "law.go:154", after := #[{ on := 2, ground := Ground.data }], guard := none }) rfl (fun K hK => ?_) ?_
    go_simp; refine (SW _ _ (gen_cell (j := 0) (row_range (L := [.slice (some ⟨R, 174, none⟩) 32 32]) HP.out) rfl) (SLs.out.below hHeld) (T2.out.below hHeld)).out.mono ?_; rintro e wt ⟨rfl, bt⟩; have BT := hid bt; clear bt
    refine hK.out _ _ (by first | exact hHeld.trans (BT.out.mono hHeld.size) | exact BT.out) (fun hHeld => ?_)
    clear hK K
    (try simp only [List.setIfInBounds_toArray, List.set_cons_zero, List.set_cons_succ])
    refine wpAnyH_take (i := 11) (oi := { dst := some 420, op := Op.binOp BinOp.neq 27 (Operand.tmp 412) (Operand.tmp 419) 27, type := 4, pos := "law.go:154", after := #[{ on := 3, ground := Ground.data }, { on := 10, ground := Ground.data }], guard := none }) (v := ?v1009) rfl (by kernel_rfl) (by kernel_rfl) (by kernel_rfl) (fun _ _ _ h => h) (Or.inl ⟨by rfl, ?hy1009⟩) hHeld ?_
    case hy1009 => (intro w hSw; (try dsimp only at hSw); go_simp; (try with_reducible rfl))
    (try simp only [Act.put, List.setIfInBounds_toArray, List.set_cons_zero, List.set_cons_succ])
    refine wpAnyH_take (i := 12) (oi := { dst := some 408, op := Op.assign (Operand.tmp 420), type := 4, pos := "law.go:154", after := #[{ on := 11, ground := Ground.data }, { on := 3, ground := Ground.chain }], guard := none }) (v := ?v1010) rfl (by kernel_rfl) (by kernel_rfl) (by kernel_rfl) (fun _ _ _ h => h) (Or.inl ⟨by rfl, ?hy1010⟩) hHeld ?_
    case hy1010 => (intro w hSw; (try dsimp only at hSw); go_simp; (try with_reducible rfl))
    (try simp only [Act.put, List.setIfInBounds_toArray, List.set_cons_zero, List.set_cons_succ])
    refine wpAnyH_done (by kernel_rfl) ?_ _
    rotate_left
    exact AllReadyH.nil
    exact AllReadyH.nil
    all_goals
      have bl := hid hHeld
      clear n1 g1 SW rk hs hHeld
      go_wp2_with (fail)
      exact ⟨rfl, v, _, L1, M1, 31, lz, X, Y, ⟨rfl, rfl, rfl, rfl, rfl, rfl, rfl, rfl, rfl⟩, rfl, rfl, rfl, rfl, R2.out.below bl.out, Nat.le_succ_of_le H.out.few, lz_ok, (HX2.out.below bl.out).1.1, (HY2.out.below bl.out).1.1⟩
  · rw [decide_eq_true hs] at n1
    simp only [Bool.not_true] at n1
    have C2 := hid c2
    clear c2 hs
    refine wp_region_held_drew (S := fun w' => Below w2.heap.size w2 w') (by kernel_rfl) ((Below.refl _ _).drew) (fun hHeld => ?_)
    try simp only [List.size_toArray, List.length_cons, List.length_nil, Nat.reduceAdd, Array.replicate_succ, Array.replicate_zero, List.push_toArray, List.nil_append, List.cons_append]
    refine wpAnyH_take (i := 0) (oi := { dst := some 409, op := Op.fieldAddr 60 (Operand.tmp 19) 7, type := 0, pos := "law.go:154", after := #[], guard := none }) (v := ?v2001) rfl (by kernel_rfl) (by kernel_rfl) (by kernel_rfl) (fun _ _ _ h => h) (Or.inl ⟨by rfl, ?hy2001⟩) hHeld ?_
    case hy2001 => (intro w hSw; (try dsimp only at hSw); go_simp; (try with_reducible rfl))
    (try simp only [Act.put, List.setIfInBounds_toArray, List.set_cons_zero, List.set_cons_succ])
    refine wpAnyH_take (i := 1) (oi := { dst := some 410, op := Op.slice 27 (Operand.tmp 409) none none none, type := 65, pos := "law.go:154", after := #[{ on := 0, ground := Ground.data }], guard := none }) (v := ?v2002) rfl (by kernel_rfl) (by kernel_rfl) (by kernel_rfl) (fun _ _ _ h => h) (Or.inl ⟨by rfl, ?hy2002⟩) hHeld ?_
    case hy2002 => (intro w hSw; (try dsimp only at hSw); go_simp; (try with_reducible rfl))
    (try simp only [Act.put, List.setIfInBounds_toArray, List.set_cons_zero, List.set_cons_succ])
    refine wpAnyH_take (i := 4) (oi := { dst := some 413, op := Op.move (Operand.tmp 17), type := 51, pos := "law.go:154", after := #[], guard := none }) (v := ?v2003) rfl (by kernel_rfl) (by kernel_rfl) (by kernel_rfl) (fun _ _ _ h => h) (Or.inl ⟨by rfl, ?hy2003⟩) hHeld ?_
    case hy2003 => (intro w hSw; (try dsimp only at hSw); go_simp; (try with_reducible rfl))
    (try simp only [Act.put, List.setIfInBounds_toArray, List.set_cons_zero, List.set_cons_succ])
    refine wpAnyH_take (i := 5) (oi := { dst := some 414, op := Op.move (Operand.tmp 21), type := 3, pos := "law.go:154", after := #[], guard := none }) (v := ?v2004) rfl (by kernel_rfl) (by kernel_rfl) (by kernel_rfl) (fun _ _ _ h => h) (Or.inl ⟨by rfl, ?hy2004⟩) hHeld ?_
    case hy2004 => (intro w hSw; (try dsimp only at hSw); go_simp; (try with_reducible rfl))
    (try simp only [Act.put, List.setIfInBounds_toArray, List.set_cons_zero, List.set_cons_succ])
    refine wpAnyH_take (i := 6) (oi := { dst := some 415, op := Op.indexAddr 51 (Operand.tmp 413) (Operand.tmp 414), type := 0, pos := "law.go:154", after := #[{ on := 4, ground := Ground.data }, { on := 5, ground := Ground.data }], guard := none }) (v := ?v2005) rfl (by kernel_rfl) (by kernel_rfl) (by kernel_rfl) (fun _ _ _ h => h) (Or.inl ⟨by rfl, ?hy2005⟩) hHeld ?_
    case hy2005 => (intro w hSw; (try dsimp only at hSw); go_simp; (try with_reducible rfl))
    (try simp only [Act.put, List.setIfInBounds_toArray, List.set_cons_zero, List.set_cons_succ])
    refine wpAnyH_take (i := 7) (oi := { dst := some 416, op := Op.fieldAddr 62 (Operand.tmp 415) 1, type := 0, pos := "law.go:154", after := #[{ on := 6, ground := Ground.data }], guard := none }) (v := ?v2006) rfl (by kernel_rfl) (by kernel_rfl) (by kernel_rfl) (fun _ _ _ h => h) (Or.inl ⟨by rfl, ?hy2006⟩) hHeld ?_
    case hy2006 => (intro w hSw; (try dsimp only at hSw); go_simp; (try with_reducible rfl))
    (try simp only [Act.put, List.setIfInBounds_toArray, List.set_cons_zero, List.set_cons_succ])
    refine wpAnyH_take (i := 8) (oi := { dst := some 417, op := Op.fieldAddr 42 (Operand.tmp 416) 1, type := 0, pos := "law.go:154", after := #[{ on := 7, ground := Ground.data }], guard := none }) (v := ?v2007) rfl (by kernel_rfl) (by kernel_rfl) (by kernel_rfl) (fun _ _ _ h => h) (Or.inl ⟨by rfl, ?hy2007⟩) hHeld ?_
    case hy2007 => (intro w hSw; (try dsimp only at hSw); go_simp; (try with_reducible rfl))
    (try simp only [Act.put, List.setIfInBounds_toArray, List.set_cons_zero, List.set_cons_succ])
    refine wpAnyH_take (i := 9) (oi := { dst := some 418, op := Op.fieldAddr 40 (Operand.tmp 417) 4, type := 0, pos := "law.go:154", after := #[{ on := 8, ground := Ground.data }], guard := none }) (v := ?v2008) rfl (by kernel_rfl) (by kernel_rfl) (by kernel_rfl) (fun _ _ _ h => h) (Or.inl ⟨by rfl, ?hy2008⟩) hHeld ?_
    case hy2008 => (intro w hSw; (try dsimp only at hSw); go_simp; (try with_reducible rfl))
    (try simp only [Act.put, List.setIfInBounds_toArray, List.set_cons_zero, List.set_cons_succ])
    refine' wpAnyH_take (i := 10) (oi := { dst := some 419, op := Op.load 27 (Operand.tmp 418), type := 27, pos := "law.go:154", after := #[{ on := 9, ground := Ground.data }], guard := none }) (v := _) rfl (by kernel_rfl) (by kernel_rfl) (by kernel_rfl) (fun _ _ _ h => h) (yieldsIf_load_mid (by rfl) _ _ rfl g (j * 204 + 105) rfl (nums .u8 f.out.o.lock) _ (fun _ h => range_keep h rk) un rfl ik.out) hHeld ?_
    (try simp only [Act.put, List.setIfInBounds_toArray, List.set_cons_zero, List.set_cons_succ])
    refine wpAnyH_ready (rs := [2]) (by kernel_rfl) (by simp) ?_
    refine AllReadyH.cons (o := { dst := some 411, op := Op.buildSlice 88 1 #[(0, Operand.tmp 410)], type := 88, pos := "law.go:154", after := #[{ on := 1, ground := Ground.data }], guard := none }) rfl (fun K hK => ?_) ?_
    go_simp; (first | refine newZ ?_ | refine newZd ?_); intro wp hp bp; have HP := hid hp; have BP := hid bp; clear hp bp
    refine hK.out _ _ (by first | exact hHeld.trans (BP.out.mono hHeld.size) | exact BP.out) (fun hHeld => ?_)
    clear hK K
    (try simp only [List.setIfInBounds_toArray, List.set_cons_zero, List.set_cons_succ])
    refine wpAnyH_ready (rs := [3]) (by kernel_rfl) (by simp) ?_
    refine AllReadyH.cons (o := { dst := some 412, op := Op.call { callee := Callee.value (Operand.func 21), args := #[Operand.tmp 411], argTypes := #[88] }, type := 27, pos := "law.go:154", after := #[{ on := 2, ground := Ground.data }], guard := none }) rfl (fun K hK => ?_) ?_
    go_simp; refine (SW _ _ (gen_cell (j := 0) (row_range (L := [.slice (some ⟨R, 174, none⟩) 32 32]) HP.out) rfl) (SLs.out.below hHeld) (T2.out.below hHeld)).out.mono ?_; rintro e wt ⟨rfl, bt⟩; have BT := hid bt; clear bt
    refine hK.out _ _ (by first | exact hHeld.trans (BT.out.mono hHeld.size) | exact BT.out) (fun hHeld => ?_)
    clear hK K
    (try simp only [List.setIfInBounds_toArray, List.set_cons_zero, List.set_cons_succ])
    refine wpAnyH_take (i := 11) (oi := { dst := some 420, op := Op.binOp BinOp.neq 27 (Operand.tmp 412) (Operand.tmp 419) 27, type := 4, pos := "law.go:154", after := #[{ on := 3, ground := Ground.data }, { on := 10, ground := Ground.data }], guard := none }) (v := ?v2009) rfl (by kernel_rfl) (by kernel_rfl) (by kernel_rfl) (fun _ _ _ h => h) (Or.inl ⟨by rfl, ?hy2009⟩) hHeld ?_
    case hy2009 => (intro w hSw; (try dsimp only at hSw); go_simp; (try with_reducible rfl))
    (try simp only [Act.put, List.setIfInBounds_toArray, List.set_cons_zero, List.set_cons_succ])
    refine wpAnyH_take (i := 12) (oi := { dst := some 408, op := Op.assign (Operand.tmp 420), type := 4, pos := "law.go:154", after := #[{ on := 11, ground := Ground.data }, { on := 3, ground := Ground.chain }], guard := none }) (v := ?v2010) rfl (by kernel_rfl) (by kernel_rfl) (by kernel_rfl) (fun _ _ _ h => h) (Or.inl ⟨by rfl, ?hy2010⟩) hHeld ?_
    case hy2010 => (intro w hSw; (try dsimp only at hSw); go_simp; (try with_reducible rfl))
    (try simp only [Act.put, List.setIfInBounds_toArray, List.set_cons_zero, List.set_cons_succ])
    refine wpAnyH_done (by kernel_rfl) ?_ _
    rotate_left
    exact AllReadyH.nil
    exact AllReadyH.nil
    all_goals
      have bl := hid hHeld
      have R3 := hid (R2.out.below hHeld)
      have HX3 := hid (HX2.out.below hHeld)
      have HY3 := hid (HY2.out.below hHeld)
      have HR3 := hid (HR2.out.below hHeld)
      clear n1 g1 SW rk hHeld R2 HX2 HY2 HR2 SLs
      go_upto_region 71 with (fail)
      have c203 : wt.cell? ⟨g, j * 204 + 203, none⟩ = some (.int .i64 f.st) := (Fw.hasSt FOK.out).one (own_fwd R3.out.own H.out.run.ses.s.e.ok FF.out.1)
      rcases C2.out with ⟨hst, rfl, rfl, rfl⟩ | ⟨hst, rfl, rfl, rfl⟩
      · have u2 : (f.st == 2) = true := by simp [hst]
        clear hst C2
        go_wp2_with (fail)
        exact ⟨rfl, v, _, L1, M1, 52, lz, X, Y, ⟨rfl, rfl, rfl, rfl, rfl, rfl, rfl, rfl, rfl⟩, rfl, rfl, rfl, rfl, R3.out, Nat.le_succ_of_le H.out.few, lz_ok, HX3.out.1.1, HY3.out.1.1⟩
      have u2 : (f.st == 2) = false := by simp [hst]
      have ow4 := R3.out.own
      have z203 := ow4.frozenAt (j * 204 + 203)
      obtain ⟨f1, hf1⟩ : ∃ f1, f1 = { f with st := 1 } := ⟨_, rfl⟩
      have fok1 := hid (show f1.ok from by rw [hf1]; exact { FOK.out with sw := (show (Lit.int .i64 1).wf = true by decide) })
      have own5 := (ow4.stored (j * 204 + 203) (.int .i64 1)).1
      rw [fwset H.out.run.ses.s.e.ok FF.out.1 (by decide) (q' := f1) (by rw [Fw.setSt FOK.out, hf1])] at own5
      have th5 := own_there (o := j * 204 + 171) (m := 32) own5 (by omega)
      have hj1 : (L.set j f1)[j]? = some f1 := List.getElem?_set_self LT.out
      have ok1 : ∀ q ∈ L.set j f1, q.ok := fun q hq => by
        rcases List.mem_or_eq_of_mem_set hq with hq | rfl
        · exact H.out.run.ses.s.e.ok q hq
        · exact fok1.out
      have own6 := own_setCells (nums .u8 x.sec) (j * 204 + 171) _ _ own5
      rw [fw_setSec ok1 hj1 XOK.out.sec.1, List.set_set] at own6
      have e6 : ({ f1 with sec := x.sec } : Fw) = { f with st := 1, sec := x.sec } := by rw [hf1]
      rw [e6] at own6
      have OW6 := hid own6
      have F6 := hid ((Far.set (H := g) (j := j * 204 + 203) (w := wt) (.int .i64 1)).trans (far_setCells (nums .u8 x.sec) (j * 204 + 171) _))
      have TH5 := hid th5
      have hsa := hid (show (Tryd.prog.info? 27).map (·.size) = some (nums .u8 x.sec).toArray.size by rw [List.size_toArray, nums_length, XOK.out.sec.1]; exact infoH)
      have hso := hid (all_oneCell_toArray (nums_oneCell .u8 x.sec))
      clear hst own5 own6 th5 hf1 hj1 ok1 e6 C2 ow4
      go_upto_region 65 with (fail)
      have nRg : ¬ (R = g) := fun e => HR3.out.2.2.1 (by rw [e]; rfl)
      have r174 : (wt.setCell ⟨g, j * 204 + 203, none⟩ (.int .i64 1)).rangeAt R 174 (nums .u8 x.sec) := by
        have h1 : wt.rangeAt R 174 (nums .u8 x.sec) := by have := (Ed.hasSec XOK.out).rng (row_range HR3.out.1.1); exact this
        exact (Keep.far' (Far.set (H := g) (j := j * 204 + 203) (w := wt) (.int .i64 1))).range h1 nRg
      go_upto_region 66 with (first | with_reducible refine wpList_ld R 174 (nums .u8 x.sec) r174 un iln rfl rfl ?_ | (refine wpList_store_mid rfl _ _ _ rfl g (j * 204 + 171) (nums .u8 x.sec).toArray rfl rfl (by rw [show (nums .u8 x.sec).toArray.size = 32 by rw [List.size_toArray, nums_length, XOK.out.sec.1]]; exact TH5.out) hsa.out hso.out ?_))
      obtain ⟨f6, hf6⟩ : ∃ f6, f6 = ({ f with st := 1, sec := x.sec } : Fw) := ⟨_, rfl⟩
      have EF := hid (show f.inn = f6.inn from by rw [hf6])
      rw [← hf6] at OW6 R3
      have fok6 := hid (show f6.ok from by rw [hf6]; exact { FOK.out with sw := (show (Lit.int .i64 1).wf = true by decide), sl := XOK.out.sec.1, sb := XOK.out.sec.2 })
      clear hf6 c203 z203 TH5 r174 nRg
      generalize World.setCells _ g (j * 204 + 171) _ = w6 at *
      rw [EF.out] at HX3
      have len' := hid (show (L.set j f6).length = L.length from List.length_set)
      have R6 := hid (R3.out.row (va' := .slice (some ⟨g, 0, none⟩) L.length ac) (La' := L.set j f6) (by rw [len'.out]; exact OW6.out) (keep_own F6.out) (.inl rfl))
      have HX6 := hid (HX3.out.row (va' := .slice (some ⟨g, 0, none⟩) L.length ac) (keep_own F6.out) (.inl rfl))
      have HY6 := hid (HY3.out.row (va' := .slice (some ⟨g, 0, none⟩) L.length ac) (keep_own F6.out) (.inl rfl))
      have row6 : w6.rangeAt g (j * 204) f6.inn.cells := by have := f6.hasIn.rng (own_fwd OW6.out R6.out.ses.s.e.ok (List.getElem?_set_self LT.out)); simpa using this
      have hY6 := HY6.out.1.1
      have ial := hid (infoLl fok6.out.i)
      have iia := hid (infoLa fok6.out.i)
      have iiz := hid (show lz.cells.toArray.size = f6.inn.cells.toArray.size from zL_as fok6.out.i)
      have iio := hid (all_oneCell_toArray (Lg.one f6.inn))
      clear R3 HX3 HY3 HR3 OW6 F6
      go_wp2_with (first | with_reducible refine wpList_ld g (j * 204) f6.inn.cells row6 unL ial rfl rfl ?_ | with_reducible refine wpList_sr Y f6.inn.cells.toArray _ lz.cells.toArray iia iiz iio rfl rfl hY6 ?_)
      have q5 := setRow_heap w6 Y _ f6.inn.cells.toArray _ _ hY6
      have f5 := far_row w6 Y f6.inn.cells.toArray
      generalize w6.setRow Y f6.inn.cells.toArray = w7 at *
      exact ⟨rfl, v, _, L.set j f6, M1, 0, f6.inn, X, Y, ⟨rfl, rfl, rfl, rfl, rfl, rfl, rfl, rfl, rfl⟩, rfl, rfl, rfl, rfl, R6.out.far HY6.out f5, by rw [len'.out]; exact Nat.le_succ_of_le H.out.few, fok6.out.i, (HX6.out.far f5 H.out.ne.1).1.1, q5⟩
end Go.Proofs.YthccjefhlmngbaaDoor

/- EdgeRuns: Hand, against the law's own list and table. -/
namespace Go.Proofs.YthccjefhlmngbaaDoor
open Go.RowKit

set_option maxRecDepth 100000 in
theorem built_fw4' (a0 a1 a2 a3 a4 a5 a6 a7 a8 a9 a10 a11 a12 a13 a14 a15 a16 a17 a18 a19 a20 a21 a22 a23 a24 a25 a26 a27 a28 a29 a30 a31 b0 b1 b2 b3 b4 b5 b6 b7 b8 b9 b10 b11 b12 b13 b14 b15 b16 b17 b18 b19 b20 b21 b22 b23 b24 b25 b26 b27 b28 b29 b30 b31 c0 c1 c2 c3 c4 c5 c6 c7 c8 c9 c10 c11 c12 c13 c14 c15 c16 c17 c18 c19 c20 c21 c22 c23 c24 c25 c26 c27 c28 c29 c30 c31 d0 d1 d2 d3 d4 d5 d6 d7 d8 d9 d10 d11 d12 d13 d14 d15 d16 d17 d18 d19 d20 d21 d22 d23 d24 d25 d26 d27 d28 d29 d30 d31 e0 e1 e2 e3 e4 e5 e6 e7 e8 e9 e10 e11 e12 e13 e14 e15 e16 e17 e18 e19 e20 e21 e22 e23 e24 e25 e26 e27 e28 e29 e30 e31 : Nat) (l1 n1 f1 u1 l2 n2 f2 u2 : Int) (m1 m2 u : Nat) :
    Tryd.prog.built 62 [(0, .agg (Lg.cells ⟨l1, ⟨n1, f1, [a0, a1, a2, a3, a4, a5, a6, a7, a8, a9, a10, a11, a12, a13, a14, a15, a16, a17, a18, a19, a20, a21, a22, a23, a24, a25, a26, a27, a28, a29, a30, a31], m1, [b0, b1, b2, b3, b4, b5, b6, b7, b8, b9, b10, b11, b12, b13, b14, b15, b16, b17, b18, b19, b20, b21, b22, b23, b24, b25, b26, b27, b28, b29, b30, b31], u1⟩⟩).toArray), (1, .agg (Lg.cells ⟨l2, ⟨n2, f2, [c0, c1, c2, c3, c4, c5, c6, c7, c8, c9, c10, c11, c12, c13, c14, c15, c16, c17, c18, c19, c20, c21, c22, c23, c24, c25, c26, c27, c28, c29, c30, c31], m2, [d0, d1, d2, d3, d4, d5, d6, d7, d8, d9, d10, d11, d12, d13, d14, d15, d16, d17, d18, d19, d20, d21, d22, d23, d24, d25, d26, d27, d28, d29, d30, d31], u2⟩⟩).toArray), (2, .agg (nums .u8 [e0, e1, e2, e3, e4, e5, e6, e7, e8, e9, e10, e11, e12, e13, e14, e15, e16, e17, e18, e19, e20, e21, e22, e23, e24, e25, e26, e27, e28, e29, e30, e31]).toArray), (3, .int .u64 (u : Int))] = some (Fw.cells ⟨⟨l1, ⟨n1, f1, [a0, a1, a2, a3, a4, a5, a6, a7, a8, a9, a10, a11, a12, a13, a14, a15, a16, a17, a18, a19, a20, a21, a22, a23, a24, a25, a26, a27, a28, a29, a30, a31], m1, [b0, b1, b2, b3, b4, b5, b6, b7, b8, b9, b10, b11, b12, b13, b14, b15, b16, b17, b18, b19, b20, b21, b22, b23, b24, b25, b26, b27, b28, b29, b30, b31], u1⟩⟩, ⟨l2, ⟨n2, f2, [c0, c1, c2, c3, c4, c5, c6, c7, c8, c9, c10, c11, c12, c13, c14, c15, c16, c17, c18, c19, c20, c21, c22, c23, c24, c25, c26, c27, c28, c29, c30, c31], m2, [d0, d1, d2, d3, d4, d5, d6, d7, d8, d9, d10, d11, d12, d13, d14, d15, d16, d17, d18, d19, d20, d21, d22, d23, d24, d25, d26, d27, d28, d29, d30, d31], u2⟩⟩, [e0, e1, e2, e3, e4, e5, e6, e7, e8, e9, e10, e11, e12, e13, e14, e15, e16, e17, e18, e19, e20, e21, e22, e23, e24, e25, e26, e27, e28, e29, e30, e31], u, hz32, 0⟩).toArray := by kernel_rfl
theorem built_fw4 {a b : Lg} {no : List Nat} (ha : a.ok) (hb : b.ok) (hn : no.length = 32) (u : Nat) :
    Tryd.prog.built 62 [(0, .agg a.cells.toArray), (1, .agg b.cells.toArray), (2, .agg (nums .u8 no).toArray), (3, .int .u64 (u : Int))] = some (Fw.cells ⟨a, b, no, u, hz32, 0⟩).toArray := by
  obtain ⟨l1, n1, f1, i1, m1, k1, u1⟩ := a
  obtain ⟨l2, n2, f2, i2, m2, k2, u2⟩ := b
  have h1 := ha.o.il
  have h2 := ha.o.ll
  have h3 := hb.o.il
  have h4 := hb.o.ll
  dsimp only at h1 h2 h3 h4
  clear ha hb
  match i1, h1, k1, h2, i2, h3, k2, h4, no, hn with
  | [a0, a1, a2, a3, a4, a5, a6, a7, a8, a9, a10, a11, a12, a13, a14, a15, a16, a17, a18, a19, a20, a21, a22, a23, a24, a25, a26, a27, a28, a29, a30, a31], _, [b0, b1, b2, b3, b4, b5, b6, b7, b8, b9, b10, b11, b12, b13, b14, b15, b16, b17, b18, b19, b20, b21, b22, b23, b24, b25, b26, b27, b28, b29, b30, b31], _, [c0, c1, c2, c3, c4, c5, c6, c7, c8, c9, c10, c11, c12, c13, c14, c15, c16, c17, c18, c19, c20, c21, c22, c23, c24, c25, c26, c27, c28, c29, c30, c31], _, [d0, d1, d2, d3, d4, d5, d6, d7, d8, d9, d10, d11, d12, d13, d14, d15, d16, d17, d18, d19, d20, d21, d22, d23, d24, d25, d26, d27, d28, d29, d30, d31], _, [e0, e1, e2, e3, e4, e5, e6, e7, e8, e9, e10, e11, e12, e13, e14, e15, e16, e17, e18, e19, e20, e21, e22, e23, e24, e25, e26, e27, e28, e29, e30, e31], _ => exact built_fw4' a0 a1 a2 a3 a4 a5 a6 a7 a8 a9 a10 a11 a12 a13 a14 a15 a16 a17 a18 a19 a20 a21 a22 a23 a24 a25 a26 a27 a28 a29 a30 a31 b0 b1 b2 b3 b4 b5 b6 b7 b8 b9 b10 b11 b12 b13 b14 b15 b16 b17 b18 b19 b20 b21 b22 b23 b24 b25 b26 b27 b28 b29 b30 b31 c0 c1 c2 c3 c4 c5 c6 c7 c8 c9 c10 c11 c12 c13 c14 c15 c16 c17 c18 c19 c20 c21 c22 c23 c24 c25 c26 c27 c28 c29 c30 c31 d0 d1 d2 d3 d4 d5 d6 d7 d8 d9 d10 d11 d12 d13 d14 d15 d16 d17 d18 d19 d20 d21 d22 d23 d24 d25 d26 d27 d28 d29 d30 d31 e0 e1 e2 e3 e4 e5 e6 e7 e8 e9 e10 e11 e12 e13 e14 e15 e16 e17 e18 e19 e20 e21 e22 e23 e24 e25 e26 e27 e28 e29 e30 e31 l1 n1 f1 u1 l2 n2 f2 u2 m1 m2 u
theorem wpList_flit {ops : Array Oper} {rest : List Oper} {a : Act} {w : World} {Q : Exit → Act → World → Prop} {f : Fw} {x : Operand} {dst : Option Tmp} {ty : TypeId} {pos : String} {af : Array Edge} (hq : Hid (f.ok)) (hx : a.eval x = .agg f.cells.toArray)
    (h : wpList Tryd.prog ops Q rest (a.put dst (.slice (some ⟨w.heap.size, 0, none⟩) 1 1)) (w.alloc (.cells f.cells.toArray 62))) :
    wpList Tryd.prog ops Q ({ dst := dst, op := Op.buildSlice 51 1 #[(0, x)], type := ty, pos := pos, after := af, guard := none } :: rest) a w :=
  wpList_lit1 rfl _ _ x rfl (cells := f.cells.toArray) hx Tryd.underlying51 (size := 204) (by kernel_rfl) (by kernel_rfl) (by rw [List.size_toArray]; exact Fw.len hq.out) (by decide) (by decide) h
def a0F (A B : Code) : Nat → Option Code
  | 42 => some A
  | 48 => some B
  | _ => none
noncomputable def a0X (A B : Code) : Code := putG (a0F A B) (rnP 41)
theorem newF_ok {a b : Lg} {no : List Nat} (ha : a.ok) (hb : b.ok) (hn : EH.ok no) : (newF a b no).ok := by
  have hp : (pickA a b).ok := by unfold pickA; split <;> first | exact hb.o | exact ha.o
  exact { i := ha, o := hb, ql := hn.1, qb := hn.2, ub := hp.ab, sl := hz32_ok.1, sb := hz32_ok.2, sw := (show (Lit.int .i64 0).wf = true by decide) }
theorem resM_hand {M : QM} {no : List Nat} {r : Quo × Nat} : resM M no r = handM r.2 M no r.1 := rfl
set_option maxRecDepth 1000000 in
set_option maxHeartbeats 16000000 in
theorem arm0 {w0 w : World} {eb tb mb t2 m2 : Nat} {dl : Int} {B nq : Nat} {v : Value} {L : List Fw} {M : QM} {va qv sv : Value} {k R X Y : Nat} {i o : Int} {x : Ed} {T : Array Value} (h : ArmI w0 w eb tb mb t2 m2 dl B nq v L M va qv sv k R X Y i o x T) (h0 : x.k = 0) (hdl : 0 ≤ dl ∧ dl ≤ 1073741824) :
    (rnP 41).wp Tryd.prog (ArmO w0 eb tb mb t2 m2 dl B nq qv sv k) ⟨T, []⟩ w := by
  have H := hid h
  have DL := hid hdl
  have XOK := hid h.ok
  obtain ⟨aa, ac, rfl, rd⟩ := Rd.of_owns h.run.own
  have ii : IdxAt L (hitF x.inn.line x.inn.o.no false) i := by have := h.ii; rwa [keyI, if_pos h0] at this
  have oo : IdxAt L (hitF x.out.line x.out.o.no true) o := by have := h.io; rwa [keyO, if_pos h0] at this
  have II := hid ii
  have OO := hid oo
  have r6 := row_range h.r.1.1
  have h171 : w.cell? ⟨R, 171, none⟩ = some (.int .i64 x.h) := (Ed.hasH h.ok).one r6
  have ri : w.rangeAt R 1 x.inn.cells := by have := x.hasIn.rng r6; exact this
  have ro : w.rangeAt R 70 x.out.cells := by have := (Ed.hasOut h.ok).rng r6; exact this
  have rn : w.rangeAt R 139 (nums .u8 x.no) := by have := (Ed.hasNo h.ok).rng r6; exact this
  have unL := Tryd.underlying42
  have unO := Tryd.underlying40
  have un := Tryd.underlying27
  have ZQ := zeroQ
  have bz := bhz
  have xin := hid (infoLl h.ok.i)
  have xon := hid (infoLl h.ok.o)
  have iln := hid (show (Tryd.prog.info? 27).map (·.size) = some (nums .u8 x.no).length by rw [nums_length, h.ok.no.1]; exact infoH)
  have e : rnP 41 = a0X (rnR 42) (rnR 48) := by kernel_rfl
  rw [e]
  have P42 := hid run42
  have P48 := hid run48
  generalize rnR 42 = C42 at *
  generalize rnR 48 = C48 at *
  clear e
  rw [frameR h.s.size, h.s.t0, h.s.t1, h.s.t02, h.s.t7, h.s.t8, h.s.t9, h.s.t17, h.s.t18, h.t19, h.t20, h.t21, h.t28, h.t29, h.t30, h.t31]
  clear h h0 r6 rd ii oo hdl
  conv => arg 2; unfold a0X; arg 2; whnf
  simp only [putG, a0F, Option.getD_some, Option.getD_none]
  go_wp2_with (first | with_reducible refine wpList_ld R 1 x.inn.cells ri unL xin rfl rfl ?_ | with_reducible refine wpList_ld R 70 x.out.cells ro unL xon rfl rfl ?_ | with_reducible refine wpList_ld R 139 (nums .u8 x.no) rn un iln rfl rfl ?_)
  refine (hand_walk eb tb mb dl B v L M nq x.inn x.out XOK.out.i XOK.out.o x.no XOK.out.no x.h w H.out.run.ses.s).mono ?_
  rintro e w1 ⟨rfl, v1, s1, k1, y1⟩
  obtain ⟨kc, hkc⟩ : ∃ kc, kc = handC x.inn x.out x.no x.h dl L M := ⟨_, rfl⟩
  rw [← hkc] at s1 ⊢
  have HK := hid hkc
  have R1 := hid (H.out.run.edge s1 k1 y1)
  have HR1 := hid (H.out.r.edge k1 y1)
  have HX1 := hid (H.out.hx.edge k1 y1)
  have HY1 := hid (H.out.hy.edge k1 y1)
  clear s1 k1 y1 hkc h171 ri ro rn
  go_wp2_with (fail)
  rename_i aK
  have HK0 := hid aK
  clear aK
  refine wp_mono (P42.out dl qv sv tb t2 eb (.slice aa L.length ac) k R X Y i o kc x _ w1 ⟨⟨rfl, rfl, rfl, rfl, rfl, rfl, rfl, rfl, rfl⟩, rfl, rfl, rfl, rfl, rfl, rfl, rfl⟩ XOK.out HR1.out.1.1) ?_
  rintro e A w2 hh
  cases e with
  | normal =>
    obtain ⟨T2, df⟩ := A
    obtain ⟨hd, s, b2, P, Q, e32, e33, hP, hQ, lP, lQ, nPQ⟩ := hh
    dsimp only at hd s e32 e33
    subst hd
    have R2 := hid (R1.out.below b2)
    have HR2 := hid (HR1.out.below b2)
    have HX2 := hid (HX1.out.below b2)
    have HY2 := hid (HY1.out.below b2)
    have HP := hid (HeldR.new R1.out hP lP)
    have HQ := hid (HeldR.new R1.out hQ lQ)
    have LPQ := hid (show P ≠ Q ∧ R ≠ P ∧ R ≠ Q ∧ X ≠ P ∧ X ≠ Q ∧ Y ≠ P ∧ Y ≠ Q from by have := HR1.out.low; have := HX1.out.low; have := HY1.out.low; omega)
    refine HK0.out _ _ ?_
    rw [frameR s.s.size, s.s.t0, s.s.t1, s.s.t02, s.s.t7, s.s.t8, s.s.t9, s.s.t17, s.s.t18, s.t19, s.t20, s.t21, s.t28, s.t29, s.t30, s.t31, e32, e33]
    clear s e32 e33 b2 hP hQ lP lQ nPQ HK0 R1 HR1 HX1 HY1 P42
    obtain ⟨zb, hzb⟩ : ∃ zb, decide (x.inn.o.id = hz32) = zb := ⟨_, rfl⟩
    have ZB := hid hzb
    have n1 := neq_hv (xs := x.inn.o.id) (ys := hz32) XOK.out.i.o.il hz32_ok.1 XOK.out.i.o.ib hz32_ok.2
    have g1 := guard_hv x.inn.o.id hz32
    unfold Go.Proofs.YthccjefhlmngbaaDoor.hv at n1 g1
    rw [hzb] at n1
    have r4 : w2.rangeAt R 4 (nums .u8 x.inn.o.id) := by have := (x.hasIn.trans (x.inn.hasO.trans x.inn.o.hasId)).rng (row_range HR2.out.1.1); exact this
    have il4 := hid (show (Tryd.prog.info? 27).map (·.size) = some (nums .u8 x.inn.o.id).length by rw [nums_length, XOK.out.i.o.il]; exact infoH)
    clear hzb
    go_upto_region 44 with (first | with_reducible refine wpList_ld R 4 (nums .u8 x.inn.o.id) r4 un il4 rfl rfl ?_ | with_reducible refine wpList_mk0 bz ?_)
    clear n1 g1 r4 il4
    rename_i K46 a46 K44 a44
    have A46 := hid a46
    have A44 := hid a44
    clear a46 a44
    have MID : ∀ (T : Array Value) (wz : World), ASl dl qv sv tb t2 eb (.slice aa L.length ac) k R X Y i o kc T → tm T 32 = .pointer (some ⟨P, 0, none⟩) → tm T 33 = .pointer (some ⟨Q, 0, none⟩) → tm T 34 = .bool (!zb) →
        RunJ w0 wz eb tb mb t2 m2 dl B nq v1 (handL kc L (newF x.inn x.out x.no)) (handM kc M x.no (handU M x.inn x.out x.no x.h).1) (.slice aa L.length ac) L M →
        HeldR wz eb mb m2 B v1 (.slice aa L.length ac) R (.cells x.cells.toArray 60 (0, 0)) → HeldR wz eb mb m2 B v1 (.slice aa L.length ac) X (.cells lz.cells.toArray 42 (0, 0)) → HeldR wz eb mb m2 B v1 (.slice aa L.length ac) Y (.cells lz.cells.toArray 42 (0, 0)) →
        HeldR wz eb mb m2 B v1 (.slice aa L.length ac) P (.cells (pickA x.inn x.out).cells.toArray 40 (0, 0)) → HeldR wz eb mb m2 B v1 (.slice aa L.length ac) Q (.cells (pickB x.inn x.out).cells.toArray 40 (0, 0)) → K46 ⟨T, []⟩ wz := by
      intro T wz s e32 e33 e34 r1 hr hx hy hp hq
      have R3 := hid r1
      have HR3 := hid hr
      have HX3 := hid hx
      have HY3 := hid hy
      have HP3 := hid hp
      have HQ3 := hid hq
      refine A46.out _ _ ?_
      rw [frameR s.s.size, s.s.t0, s.s.t1, s.s.t02, s.s.t7, s.s.t8, s.s.t9, s.s.t17, s.s.t18, s.t19, s.t20, s.t21, s.t28, s.t29, s.t30, s.t31, e32, e33, e34]
      clear s e32 e33 e34 r1 hr hx hy hp hq A46 A44 R2 HR2 HX2 HY2 HP HQ
      have rn : wz.rangeAt R 139 (nums .u8 x.no) := by have := (Ed.hasNo XOK.out).rng (row_range HR3.out.1.1); exact this
      go_upto_region 46 with (fail)
      go_wp2_with (with_reducible refine wpList_ld R 139 (nums .u8 x.no) rn un iln rfl rfl ?_)
      refine (tget_walk t2 m2 nq M x.no XOK.out.no wz R3.out.mod).mono ?_
      rintro e w5 ⟨rfl, b5⟩
      have R5 := hid (R3.out.below b5)
      have HR5 := hid (HR3.out.below b5)
      have HX5 := hid (HX3.out.below b5)
      have HY5 := hid (HY3.out.below b5)
      have HP5 := hid (HP3.out.below b5)
      have HQ5 := hid (HQ3.out.below b5)
      have qk := hid (show ((M x.no).getD qz).ok from by
        cases hm : M x.no with
        | none => exact qz_ok
        | some q => exact R3.out.mod.ok _ _ hm)
      obtain ⟨kn, hkn⟩ : ∃ kn, (M x.no).isSome = kn := ⟨_, rfl⟩
      obtain ⟨q, hqq⟩ : ∃ q, (M x.no).getD qz = q := ⟨_, rfl⟩
      rw [hkn, hqq]
      rw [hqq] at qk
      have QE := hid (And.intro hkn hqq)
      have qia := hid (infoQa qk.out)
      have qiz := hid (zQ_as qk.out)
      have qio := hid (all_oneCell_toArray (Quo.one q))
      clear b5 R3 HR3 HX3 HY3 HP3 HQ3 rn hkn hqq
      go_upto_region 47 with (first | (with_reducible refine wpList_var q.cells.toArray _ ZQ qia qiz qio rfl rfl ?_; intro w6 hI hb6))
      rename_i K60 a60 K48 a48
      have A60 := hid a60
      have A48 := hid a48
      clear a60 a48
      have R6 := hid (R5.out.below hb6)
      have HR6 := hid (HR5.out.below hb6)
      have HX6 := hid (HX5.out.below hb6)
      have HY6 := hid (HY5.out.below hb6)
      have HP6 := hid (HP5.out.below hb6)
      have HQ6 := hid (HQ5.out.below hb6)
      have HG6 := hid (HeldR.new R5.out hI (Nat.le_refl _))
      obtain ⟨G, hG⟩ : ∃ G, G = w5.heap.size := ⟨_, rfl⟩
      rw [← hG] at HG6 ⊢
      have NG := hid (show P ≠ G ∧ Q ≠ G from by have := HP5.out.low; have := HQ5.out.low; omega)
      clear hI hb6 hG R5 HR5 HX5 HY5 HP5 HQ5 qia qiz qio
      have MID60 : ∀ (T : Array Value) (wz : World) (c : Int) (Ma : QM), RSl dl qv sv tb t2 eb (.slice aa L.length ac) k T → tm T 19 = .pointer (some ⟨R, 0, none⟩) → tm T 28 = .int .i64 c → tm T 29 = .int .i64 kc → tm T 30 = .pointer (some ⟨X, 0, none⟩) → tm T 31 = .pointer (some ⟨Y, 0, none⟩) → tm T 32 = .pointer (some ⟨P, 0, none⟩) →
          RunJ w0 wz eb tb mb t2 m2 dl B nq v1 (handL kc L (newF x.inn x.out x.no)) (handM kc M x.no (handU M x.inn x.out x.no x.h).1) (.slice aa L.length ac) L Ma →
          HeldR wz eb mb m2 B v1 (.slice aa L.length ac) R (.cells x.cells.toArray 60 (0, 0)) → HeldR wz eb mb m2 B v1 (.slice aa L.length ac) X (.cells lz.cells.toArray 42 (0, 0)) → HeldR wz eb mb m2 B v1 (.slice aa L.length ac) Y (.cells lz.cells.toArray 42 (0, 0)) →
          HeldR wz eb mb m2 B v1 (.slice aa L.length ac) P (.cells (pickA x.inn x.out).cells.toArray 40 (0, 0)) → c = (kc : Int) → Ma = handM kc M x.no (handU M x.inn x.out x.no x.h).1 → K60 ⟨T, []⟩ wz := by
        intro T wz c Ma s e19 e28 e29 e30 e31 e32 r1 hr hx hy hp hc hM
        subst hc hM
        have R8 := hid r1
        have HR8 := hid hr
        have HX8 := hid hx
        have HY8 := hid hy
        have HP8 := hid hp
        refine A60.out _ _ ?_
        rw [frameR s.size, s.t0, s.t1, s.t02, s.t7, s.t8, s.t9, s.t17, s.t18, e19, e28, e29, e30, e31, e32]
        clear s e19 e28 e29 e30 e31 e32 r1 hr hx hy hp A60 A48 R6 HR6 HX6 HY6 HP6 HQ6 HG6 P48
        by_cases k0 : kc = 0
        case neg =>
          have t1 : ((kc : Int) == 0) = false := by simp [k0]
          have rr := R8.out
          rw [show handL kc L (newF x.inn x.out x.no) = L from if_neg k0] at rr
          have RR := hid rr
          clear rr k0
          go_wp2_with (fail)
          exact ⟨rfl, v1, _, L, _, kc, lz, X, Y, ⟨rfl, rfl, rfl, rfl, rfl, rfl, rfl, rfl, rfl⟩, rfl, rfl, rfl, rfl, RR.out, Nat.le_succ_of_le H.out.few, lz_ok, HX8.out.1.1, HY8.out.1.1⟩
        subst k0
        have rr := R8.out
        rw [show handL 0 L (newF x.inn x.out x.no) = L ++ [newF x.inn x.out x.no] from if_pos rfl] at rr
        have RR := hid rr
        have FOK := hid (newF_ok XOK.out.i XOK.out.o XOK.out.no)
        have bF := built_fw4 XOK.out.i XOK.out.o XOK.out.no.1 (pickA x.inn x.out).am
        have ri : wz.rangeAt R 1 x.inn.cells := by have := x.hasIn.rng (row_range HR8.out.1.1); exact this
        have ro : wz.rangeAt R 70 x.out.cells := by have := (Ed.hasOut XOK.out).rng (row_range HR8.out.1.1); exact this
        have rn : wz.rangeAt R 139 (nums .u8 x.no) := by have := (Ed.hasNo XOK.out).rng (row_range HR8.out.1.1); exact this
        have pok : (pickA x.inn x.out).ok := by unfold pickA; split <;> first | exact XOK.out.o.o | exact XOK.out.i.o
        have c34 : wz.cell? ⟨P, 34, none⟩ = some (.int .u64 ((pickA x.inn x.out).am : Int)) := (Ofr.hasAm pok).one (row_range HP8.out.1.1)
        have OWN := hid RR.out.own
        have BW := hid RR.out.ses.s.lt.2.2
        clear rr
        go_upto_region 61 with (fail)
        go_wp2_with (first | with_reducible refine wpList_ld R 1 x.inn.cells ri unL xin rfl rfl ?_ | with_reducible refine wpList_ld R 70 x.out.cells ro unL xon rfl rfl ?_ | with_reducible refine wpList_ld R 139 (nums .u8 x.no) rn un iln rfl rfl ?_ | with_reducible refine wpList_mk4 bF rfl rfl rfl rfl ?_ | with_reducible refine wpList_flit (f := newF x.inn x.out x.no) FOK rfl ?_ | (at_builtin; refine wpList_pushK rfl _ _ 51 rfl tyFs B OWN.out rfl rfl (by rw [List.size_toArray]; exact Fw.len FOK.out) (List.all_eq_true.2 (fun u hu => Fw.one (newF x.inn x.out x.no) u (by simpa using hu))) (by have := H.out.few; have := H.out.k60; omega) (by decide) BW.out ?_; intro v5 w9 own5 k5 nb5))
        have own6 : w9.ownsRow B 62 204 v5 (L ++ [newF x.inn x.out x.no]).length ((L ++ [newF x.inn x.out x.no]).flatMap Fw.cells) := by
          rw [List.flatMap_append, List.flatMap_cons, List.flatMap_nil, List.append_nil, List.length_append]
          exact own5
        have ky : v5.ownBlock = (Value.slice aa L.length ac).ownBlock ∨ ∀ g, v5.ownBlock = some g → wz.heap.size ≤ g := by
          rcases nb5 with h | h
          · exact .inl h
          · exact .inr (fun g hg => by rw [h] at hg; cases hg; omega)
        exact ⟨rfl, v1, v5, _, _, 0, lz, X, Y, ⟨rfl, rfl, rfl, rfl, rfl, rfl, rfl, rfl, rfl⟩, rfl, rfl, rfl, rfl, RR.out.row own6 k5 ky, by have := H.out.few; rw [List.length_append]; exact Nat.succ_le_succ this, lz_ok, (HX8.out.row k5 ky).1.1, (HY8.out.row k5 ky).1.1⟩
      have M60 := hid MID60
      clear MID60
      refine wp_mono (P48.out dl qv sv tb t2 eb (.slice aa L.length ac) k R X Y P Q G i o kc (!zb) kn x _ w6 ⟨⟨⟨rfl, rfl, rfl, rfl, rfl, rfl, rfl, rfl, rfl⟩, rfl, rfl, rfl, rfl, rfl, rfl, rfl⟩, rfl, rfl, rfl, rfl, rfl⟩ XOK.out HR6.out.1.1) ?_
      rintro e A w7 hh
      cases e with
      | normal =>
        obtain ⟨T7, df⟩ := A
        obtain ⟨hd, s7, e252, b7⟩ := hh
        dsimp only at hd s7 e252
        subst hd
        have R7 := hid (R6.out.below b7)
        have HR7 := hid (HR6.out.below b7)
        have HX7 := hid (HX6.out.below b7)
        have HY7 := hid (HY6.out.below b7)
        have HP7 := hid (HP6.out.below b7)
        have HQ7 := hid (HQ6.out.below b7)
        have HG7 := hid (HG6.out.below b7)
        obtain ⟨ab, hab⟩ : ∃ ab, argB x.inn x.out = ab := ⟨_, rfl⟩
        rw [hab] at e252
        have AB := hid hab
        have s := s7.a
        refine A48.out _ _ ?_
        rw [frameR s.s.size, s.s.t0, s.s.t1, s.s.t02, s.s.t7, s.s.t8, s.s.t9, s.s.t17, s.s.t18, s.t19, s.t20, s.t21, s.t28, s.t29, s.t30, s.t31, s7.t32, s7.t33, s7.t34, s7.t35, s7.t36, e252]
        clear s s7 e252 b7 hab A48 A60 R6 HR6 HX6 HY6 HP6 HQ6 HG6 P48
        cases ab with
        | true =>
          go_wp2_with (fail)
          have kk : kc = 1 := by rw [HK.out]; unfold handC; rw [if_pos AB.out]
          refine M60.out _ _ 1 M ⟨rfl, rfl, rfl, rfl, rfl, rfl, rfl, rfl, rfl⟩ rfl rfl rfl rfl rfl rfl R7.out HR7.out HX7.out HY7.out HP7.out (by rw [kk]; rfl) (by unfold handM; rw [if_neg (by omega)])
        | false =>
          have na : ¬ argB x.inn x.out = true := by rw [AB.out]; decide
          have NA := hid na
          have ib := argB_false AB.out
          have IB := hid ib
          have ai := any_idx II.out
          have ao := any_idx OO.out
          have a1 : anyF L x.inn.line x.inn.o.no false = decide (0 ≤ i) := ai.symm
          have a2 : anyF L x.out.line x.out.o.no true = decide (0 ≤ o) := ao.symm
          have A1 := hid a1
          have A2 := hid a2
          have K60 := hid H.out.k60
          have FEW := hid H.out.few
          clear na ib ai ao a1 a2
          by_cases hi : 0 ≤ i
          · have t1 : decide (i ≥ 0) = true := decide_eq_true hi
            have t1' : decide (0 ≤ i) = true := decide_eq_true hi
            have HI := hid hi
            clear hi
            go_wp2_with (fail)
            have kk : kc = 6 := by rw [HK.out]; unfold handC; rw [if_neg NA.out, A1.out, decide_eq_true HI.out, Bool.true_or, if_pos rfl]
            refine M60.out _ _ 6 M ⟨rfl, rfl, rfl, rfl, rfl, rfl, rfl, rfl, rfl⟩ rfl rfl rfl rfl rfl rfl R7.out HR7.out HX7.out HY7.out HP7.out (by rw [kk]; rfl) (by unfold handM; rw [if_neg (by omega)])
          by_cases ho : 0 ≤ o
          · have t1 : decide (i ≥ 0) = false := decide_eq_false hi
            have t1' : decide (0 ≤ i) = false := decide_eq_false hi
            have t2 : decide (o ≥ 0) = true := decide_eq_true ho
            have t2' : decide (0 ≤ o) = true := decide_eq_true ho
            have HO := hid ho
            clear hi ho
            go_wp2_with (fail)
            have kk : kc = 6 := by rw [HK.out]; unfold handC; rw [if_neg NA.out, A2.out, decide_eq_true HO.out, Bool.or_true, if_pos rfl]
            refine M60.out _ _ 6 M ⟨rfl, rfl, rfl, rfl, rfl, rfl, rfl, rfl, rfl⟩ rfl rfl rfl rfl rfl rfl R7.out HR7.out HX7.out HY7.out HP7.out (by rw [kk]; rfl) (by unfold handM; rw [if_neg (by omega)])
          have t1 : decide (i ≥ 0) = false := decide_eq_false hi
          have t1' : decide (0 ≤ i) = false := decide_eq_false hi
          have u2 : decide (o ≥ 0) = false := decide_eq_false ho
          have u2' : decide (0 ≤ o) = false := decide_eq_false ho
          have C1 := hid (show handC x.inn x.out x.no x.h dl L M = if timB x.inn x.out x.h dl = true then 33 else handT M x.inn x.out x.no x.h (M x.no) from by
            unfold handC
            rw [if_neg NA.out, A1.out, A2.out, t1', u2', Bool.or_false, if_neg (by decide), if_neg (by have := K60.out; have := FEW.out; omega)])
          clear hi ho
          go_upto_region 52 with (fail)
          clear t1 t1' u2 u2'
          have r7 := row_range HR7.out.1.1
          have h138 : w7.cell? ⟨R, 138, none⟩ = some (.int .i64 x.out.o.til) := ((Ed.hasOut XOK.out).trans (x.out.hasO.trans (Ofr.hasTil XOK.out.o.o))).one r7
          have h69 : w7.cell? ⟨R, 69, none⟩ = some (.int .i64 x.inn.o.til) := (x.hasIn.trans (x.inn.hasO.trans (Ofr.hasTil XOK.out.i.o))).one r7
          have h171 : w7.cell? ⟨R, 171, none⟩ = some (.int .i64 x.h) := (Ed.hasH XOK.out).one r7
          by_cases tA : x.out.o.til ≤ x.h
          · have t1 : decide (x.out.o.til ≤ x.h) = true := decide_eq_true tA
            have TA := hid tA
            clear tA
            go_wp2_with (fail)
            have kk : kc = 33 := by rw [HK.out]; rw [C1.out, if_pos (by unfold timB; rw [decide_eq_true TA.out]; rfl)]
            refine M60.out _ _ 33 M ⟨rfl, rfl, rfl, rfl, rfl, rfl, rfl, rfl, rfl⟩ rfl rfl rfl rfl rfl rfl R7.out HR7.out HX7.out HY7.out HP7.out (by rw [kk]; rfl) (by unfold handM; rw [if_neg (by omega)])
          have t1 : decide (x.out.o.til ≤ x.h) = false := decide_eq_false tA
          have u4 : IntKind.i64.wrap (x.inn.o.til - x.out.o.til) = x.inn.o.til - x.out.o.til := by
            obtain ⟨-, -, -, b1, b2⟩ := IB.out
            have := isH_iff b1
            have := isH_iff b2
            rw [IntKind.wrap_i64]; omega
          by_cases tB : x.inn.o.til - x.out.o.til < dl
          · have u5 : decide (x.inn.o.til - x.out.o.til < dl) = true := decide_eq_true tB
            have TB := hid tB
            clear tA tB
            go_wp2_with (fail)
            have kk : kc = 33 := by rw [HK.out]; rw [C1.out, if_pos (by unfold timB; rw [decide_eq_true TB.out, Bool.or_true])]
            refine M60.out _ _ 33 M ⟨rfl, rfl, rfl, rfl, rfl, rfl, rfl, rfl, rfl⟩ rfl rfl rfl rfl rfl rfl R7.out HR7.out HX7.out HY7.out HP7.out (by rw [kk]; rfl) (by unfold handM; rw [if_neg (by omega)])
          have u5 : decide (x.inn.o.til - x.out.o.til < dl) = false := decide_eq_false tB
          have C2 := hid (show handC x.inn x.out x.no x.h dl L M = handT M x.inn x.out x.no x.h (M x.no) from by rw [C1.out, if_neg (by unfold timB; rw [t1, u5]; decide)])
          clear tA tB
          go_upto_region 54 with (fail)
          clear t1 u4 u5 h138 h69 C1
          cases kn with
          | false =>
            go_wp2_with (fail)
            have kk : kc = 5 := by rw [HK.out]; rw [C2.out, show M x.no = none from by have := QE.out.1; cases hm : M x.no with | none => rfl | some y => rw [hm] at this; cases this]; rfl
            refine M60.out _ _ 5 M ⟨rfl, rfl, rfl, rfl, rfl, rfl, rfl, rfl, rfl⟩ rfl rfl rfl rfl rfl rfl R7.out HR7.out HX7.out HY7.out HP7.out (by rw [kk]; rfl) (by unfold handM; rw [if_neg (by omega)])
          | true =>
            have C3 := hid (show handC x.inn x.out x.no x.h dl L M = if (pickA x.inn x.out).id ≠ q.id then 60 else (handU M x.inn x.out x.no x.h).2 from by
              rw [C2.out]
              have := QE.out
              cases hm : M x.no with
              | none => rw [hm] at this; cases this.1
              | some y => rw [hm] at this; obtain ⟨_, rfl⟩ := this; rfl)
            have PAO := hid (show (pickA x.inn x.out).ok from by unfold pickA; split <;> first | exact XOK.out.o.o | exact XOK.out.i.o)
            have PBO := hid (show (pickB x.inn x.out).ok from by unfold pickB; split <;> first | exact XOK.out.i.o | exact XOK.out.o.o)
            have rp : w7.rangeAt P 2 (nums .u8 (pickA x.inn x.out).id) := by have := (pickA x.inn x.out).hasId.rng (row_range HP7.out.1.1); simpa using this
            have rq : w7.rangeAt G 32 (nums .u8 q.id) := by have := gen_range (row_range HG7.out.1.1) 32 32; rwa [Quo.id_at qk.out] at this
            have ip := hid (show (Tryd.prog.info? 27).map (·.size) = some (nums .u8 (pickA x.inn x.out).id).length by rw [nums_length, PAO.out.il]; exact infoH)
            have iq := hid (show (Tryd.prog.info? 27).map (·.size) = some (nums .u8 q.id).length by rw [nums_length, qk.out.il]; exact infoH)
            have n1 := neq_hv (xs := (pickA x.inn x.out).id) (ys := q.id) PAO.out.il qk.out.il PAO.out.ib qk.out.ib
            have g1 := guard_hv (pickA x.inn x.out).id q.id
            unfold Go.Proofs.YthccjefhlmngbaaDoor.hv at n1 g1
            by_cases hq : (pickA x.inn x.out).id = q.id
            case neg =>
              have HQN := hid hq
              rw [decide_eq_false hq] at n1
              clear hq
              go_upto_region 56 with (fail)
              go_wp2_with (first | with_reducible refine wpList_ld P 2 (nums .u8 (pickA x.inn x.out).id) rp un ip rfl rfl ?_ | with_reducible refine wpList_ld G 32 (nums .u8 q.id) rq un iq rfl rfl ?_)
              have kk : kc = 60 := by rw [HK.out]; rw [C3.out, if_pos HQN.out]
              refine M60.out _ _ 60 M ⟨rfl, rfl, rfl, rfl, rfl, rfl, rfl, rfl, rfl⟩ rfl rfl rfl rfl rfl rfl R7.out HR7.out HX7.out HY7.out HP7.out (by rw [kk]; rfl) (by unfold handM; rw [if_neg (by omega)])
            rw [decide_eq_true hq] at n1
            have C4 := hid (show handC x.inn x.out x.no x.h dl L M = (handU M x.inn x.out x.no x.h).2 from by rw [C3.out, if_neg (fun e => e hq)])
            clear hq C3 C2
            go_upto_region 58 with (first | with_reducible refine wpList_ld P 2 (nums .u8 (pickA x.inn x.out).id) rp un ip rfl rfl ?_ | with_reducible refine wpList_ld G 32 (nums .u8 q.id) rq un iq rfl rfl ?_)
            have rn : w7.rangeAt R 139 (nums .u8 x.no) := by have := (Ed.hasNo XOK.out).rng r7; exact this
            have c34 : w7.cell? ⟨P, 34, none⟩ = some (.int .u64 ((pickA x.inn x.out).am : Int)) := (Ofr.hasAm PAO.out).one (row_range HP7.out.1.1)
            have d34 : w7.cell? ⟨Q, 34, none⟩ = some (.int .u64 ((pickB x.inn x.out).am : Int)) := (Ofr.hasAm PBO.out).one (row_range HQ7.out.1.1)
            clear n1 g1 rp rq ip iq
            cases zb with
            | true =>
              have hz : x.inn.o.id = hz32 := of_decide_eq_true ZB.out
              have HZ := hid hz
              clear hz
              go_upto_region 47 with (fail)
              go_wp2_with (with_reducible refine wpList_ld R 139 (nums .u8 x.no) rn un iln rfl rfl ?_)
              refine (tbuy_walk t2 m2 nq M x.no XOK.out.no x.h (pickA x.inn x.out).am (pickB x.inn x.out).am PAO.out.ab PBO.out.ab w7 R7.out.mod).mono ?_
              rintro e w8 ⟨rfl, t8, f8⟩
              have hU : handU M x.inn x.out x.no x.h = useS (M x.no) true x.h (pickA x.inn x.out).am (fun rc ru => payB (pickB x.inn x.out).am ru (pickA x.inn x.out).am rc) := by unfold handU; rw [if_pos HZ.out]
              rw [← hU] at t8 ⊢
              have R8 := hid (R7.out.model t8 f8)
              have HR8 := hid (HR7.out.model f8)
              have HX8 := hid (HX7.out.model f8)
              have HY8 := hid (HY7.out.model f8)
              have HP8 := hid (HP7.out.model f8)
              have KU := hid (show kc = (handU M x.inn x.out x.no x.h).2 from by rw [HK.out, C4.out])
              clear t8 f8 hU
              generalize handU M x.inn x.out x.no x.h = hu at *
              go_wp2_with (fail)
              refine M60.out _ _ _ (resM M x.no hu) ⟨rfl, rfl, rfl, rfl, rfl, rfl, rfl, rfl, rfl⟩ rfl rfl rfl rfl rfl rfl R8.out HR8.out HX8.out HY8.out HP8.out (by rw [KU.out]) (by rw [KU.out]; rfl)
            | false =>
              have hz : ¬ x.inn.o.id = hz32 := of_decide_eq_false ZB.out
              have HZ := hid hz
              clear hz
              go_upto_region 59 with (fail)
              go_wp2_with (with_reducible refine wpList_ld R 139 (nums .u8 x.no) rn un iln rfl rfl ?_)
              refine (tsell_walk t2 m2 nq M x.no XOK.out.no x.h (pickA x.inn x.out).am (pickB x.inn x.out).am PAO.out.ab PBO.out.ab w7 R7.out.mod).mono ?_
              rintro e w8 ⟨rfl, t8, f8⟩
              have hU : handU M x.inn x.out x.no x.h = useS (M x.no) false x.h (pickA x.inn x.out).am (fun rc ru => payB (pickA x.inn x.out).am rc (pickB x.inn x.out).am ru) := by unfold handU; rw [if_neg HZ.out]
              rw [← hU] at t8 ⊢
              have R8 := hid (R7.out.model t8 f8)
              have HR8 := hid (HR7.out.model f8)
              have HX8 := hid (HX7.out.model f8)
              have HY8 := hid (HY7.out.model f8)
              have HP8 := hid (HP7.out.model f8)
              have KU := hid (show kc = (handU M x.inn x.out x.no x.h).2 from by rw [HK.out, C4.out])
              clear t8 f8 hU
              generalize handU M x.inn x.out x.no x.h = hu at *
              go_wp2_with (fail)
              refine M60.out _ _ _ (resM M x.no hu) ⟨rfl, rfl, rfl, rfl, rfl, rfl, rfl, rfl, rfl⟩ rfl rfl rfl rfl rfl rfl R8.out HR8.out HX8.out HY8.out HP8.out (by rw [KU.out]) (by rw [KU.out]; rfl)
      | _ => exact hh.elim
    have M46 := hid MID
    clear MID A46 P48
    cases zb with
    | false =>
      have hz : ¬ x.inn.o.id = hz32 := of_decide_eq_false ZB.out
      have eA : pickA x.inn x.out = x.inn.o := if_neg hz
      have eB : pickB x.inn x.out = x.out.o := if_neg hz
      rw [← eA] at HP
      rw [← eB] at HQ
      clear hz eA eB
      go_wp2_with (fail)
      refine A44.out _ _ ?_
      go_wp2_with (fail)
      exact M46.out _ _ ⟨⟨rfl, rfl, rfl, rfl, rfl, rfl, rfl, rfl, rfl⟩, rfl, rfl, rfl, rfl, rfl, rfl, rfl⟩ rfl rfl rfl R2.out HR2.out HX2.out HY2.out HP.out HQ.out
    | true =>
      have hz : x.inn.o.id = hz32 := of_decide_eq_true ZB.out
      have eA := hid (show pickA x.inn x.out = x.out.o from if_pos hz)
      have eB := hid (show pickB x.inn x.out = x.inn.o from if_pos hz)
      clear hz
      have hp1 := HP.out.1.1
      have hq1 := HQ.out.1.1
      have rp := row_range hp1
      have rq := row_range hq1
      have lp := hid (infoOl XOK.out.i.o)
      have lq := hid (infoOl XOK.out.o.o)
      have ap := hid (infoOa XOK.out.i.o)
      have aq := hid (infoOa XOK.out.o.o)
      have op := hid (all_oneCell_toArray (Ofr.one x.inn.o))
      have oq := hid (all_oneCell_toArray (Ofr.one x.out.o))
      have zp := hid (show x.inn.o.cells.toArray.size = x.out.o.cells.toArray.size by rw [List.size_toArray, List.size_toArray, Ofr.len XOK.out.i.o, Ofr.len XOK.out.o.o])
      have zq := hid (show x.out.o.cells.toArray.size = x.inn.o.cells.toArray.size by rw [List.size_toArray, List.size_toArray, Ofr.len XOK.out.i.o, Ofr.len XOK.out.o.o])
      have hq2 : (w2.setRow P x.out.o.cells.toArray).heap[Q]? = some (.cells x.out.o.cells.toArray 40 (0, 0)) := by rw [setRow_other _ _ _ _ (fun e => LPQ.out.1 e.symm)]; exact hq1
      go_wp2_with (fail)
      refine A44.out _ _ ?_
      go_wp2_with (first | with_reducible refine wpList_ld P 0 x.inn.o.cells rp unO lp rfl rfl ?_ | with_reducible refine wpList_ld Q 0 x.out.o.cells rq unO lq rfl rfl ?_ | with_reducible refine wpList_sr P x.out.o.cells.toArray _ x.inn.o.cells.toArray aq zp oq rfl rfl hp1 ?_ | with_reducible refine wpList_sr Q x.inn.o.cells.toArray _ x.out.o.cells.toArray ap zq op rfl rfl hq2 ?_)
      have q1 := setRow_heap w2 P _ x.out.o.cells.toArray _ _ hp1
      have f1 := far_row w2 P x.out.o.cells.toArray
      have q2 := setRow_heap (w2.setRow P x.out.o.cells.toArray) Q _ x.inn.o.cells.toArray _ _ hq2
      have f2 := far_row (w2.setRow P x.out.o.cells.toArray) Q x.inn.o.cells.toArray
      generalize (w2.setRow P x.out.o.cells.toArray).setRow Q x.inn.o.cells.toArray = w4 at *
      generalize w2.setRow P x.out.o.cells.toArray = w3 at *
      have HP3 := HP.out.set q1
      have HQ3 := HQ.out.far f1 (fun e => LPQ.out.1 e.symm)
      exact M46.out _ _ ⟨⟨rfl, rfl, rfl, rfl, rfl, rfl, rfl, rfl, rfl⟩, rfl, rfl, rfl, rfl, rfl, rfl, rfl⟩ rfl rfl rfl ((R2.out.far HP.out f1).far HQ3 f2) ((HR2.out.far f1 LPQ.out.2.1).far f2 LPQ.out.2.2.1) ((HX2.out.far f1 LPQ.out.2.2.2.1).far f2 LPQ.out.2.2.2.2.1) ((HY2.out.far f1 LPQ.out.2.2.2.2.2.1).far f2 LPQ.out.2.2.2.2.2.2) (by rw [eA.out]; exact HP3.far f2 LPQ.out.1) (by rw [eB.out]; exact HQ3.set q2)
  | _ => exact hh.elim
end Go.Proofs.YthccjefhlmngbaaDoor

/- The chain's Mine, with no pick, where nothing or one transaction waits. -/
import Derived.Test.YtdopbhahcpjjgaaDoorSnd
import Derived.Test.YtdopbhahcpjjgaaDoorCnf
namespace Go.Proofs.YtdopbhahcpjjgaaDoor
open Go.RowKit

theorem nil_eqIn {P : Program} (w : World) (d : Nat) (t : TypeId) {ps rs : Array TypeId} {vd : Bool} (h : P.underlying t = some (.func ps rs vd)) : (Op.equalIn (d + 1) t .nilFunc .nilFunc).run P w = .ok true w := by
  simp [Op.equalIn, run_underlying h, Result.andThen]
theorem nil_eql (w : World) : (binOp .eql 94 .nilFunc .nilFunc).run Tryd.prog w = .ok (.bool true) w := by
  simp only [binOp]
  simp [Op.equal, Op.maxDepth, nil_eqIn w 9999 _ Tryd.underlying94]
theorem nil_guard (x y : Operand) (w : World) : (eqGuard .eql 94 x y .nilFunc .nilFunc).run Tryd.prog w = .ok () w := by rfl
set_option maxRecDepth 100000 in
set_option maxHeartbeats 16000000 in
theorem cmine0_walk {w : World} {A B ob mb hm dm wm sm cb c : Nat} {ht gf : Int} {HM : HM'} {SM : SM'} {M : EM} (h : Led w A B ob mb hm dm wm sm cb ht gf (.slice none 0 0) HM SM M c) (hh : ht < 1073741824) :
    Calls Tryd.prog 15 #[.pointer (some ⟨cb, 0, none⟩), .nilFunc] w fun e w' => e = .returned (.slice none 0 0) ∧ Led w' A B ob mb hm dm wm sm cb (ht + 1) gf (.slice none 0 0) HM SM M c ∧ Keep (fun i => i = cb) w w' := by
  have H := hid h
  have HB := hid h.hb
  have c1 := h.ch.c1
  have c6 := h.ch.c6
  have t0 : decide ((1073741824 : Int) ≤ ht) = false := decide_eq_false (by omega)
  have z1 := h.ch.fz 1
  obtain ⟨h1, hh1⟩ : ∃ h1, h1 = ht + 1 := ⟨_, rfl⟩
  have r1 : IntKind.i64.wrap (ht + 1) = h1 := by have := HB.out; rw [IntKind.wrap_i64]; omega
  have HH := hid hh1
  have HLT := hid hh
  have t1 : decide ((0 : Int) < 0) = false := by decide
  clear h hh hh1
  go_enter Tryd.func15, Tryd.ntmps15
  go_upto_region 6 with (fail)
  go_loopw [5, 6, 27] (fun x5 x6 x27 wr => x5 = .slice none 0 0 ∧ x6 = .slice none 0 0 ∧ x27 = .int .i64 0 ∧ wr = w) (fun _ _ _ _ => 0)
  case atStart => exact ⟨rfl, rfl, rfl, rfl⟩
  case round =>
    obtain ⟨rfl, rfl, rfl, e⟩ := hrel
    obtain ⟨wo, rfl⟩ : ∃ wo, wo = wr := ⟨_, rfl⟩
    have EW := hid e
    have c1' : wo.cell? ⟨cb, 1, none⟩ = some (.int .i64 ht) := by rw [e]; exact c1
    have z1' : wo.frozen? ⟨cb, 1, none⟩ = false := by rw [e]; exact z1
    clear e c1 z1 c6
    go_upto_region 15 with (fail)
    have CH2 := hid (show ChAt (wo.setCell ⟨cb, 1, none⟩ (.int .i64 h1)) cb ob h1 hm dm wm sm (.slice none 0 0) gf from by rw [EW.out]; exact H.out.ch.set1 h1)
    have F2 := hid (show Far cb w (wo.setCell ⟨cb, 1, none⟩ (.int .i64 h1)) from by rw [EW.out]; exact Far.set _)
    clear c1' z1' r1
    generalize wo.setCell ⟨cb, 1, none⟩ (.int .i64 h1) = w2 at *
    have c6 := CH2.out.c6
    have z6 := CH2.out.fz 6
    go_upto_region 16 with (fail)
    have CH3 := hid (CH2.out.set6 (.slice none 0 0))
    have F3 := hid (show Far cb w2 (w2.setCell ⟨cb, 6, none⟩ (.slice none 0 0)) from Far.set _)
    clear c6 z6
    generalize w2.setCell ⟨cb, 6, none⟩ (.slice none 0 0) = w3 at *
    go_upto_region 17 with (fail)
    go_loopw [70] (fun x70 wr => x70 = .int .i64 0 ∧ wr = w3) (fun _ _ => 0)
    case atStart => exact ⟨rfl, rfl⟩
    case round =>
      obtain ⟨rfl, e⟩ := hrel
      have E3 := hid e
      clear e
      go_wp2_with (fail)
      go_ret
      have KF : Keep (fun i => i = cb) w wr := by rw [E3.out]; exact (Keep.far' F2.out).trans (Keep.far' F3.out)
      rw [← HH.out]
      exact ⟨rfl, H.out.struct KF (fun i h => h) (by rw [E3.out]; exact CH3.out) (by have := HH.out; have := HLT.out; omega) H.out.gb, KF⟩
/-- what comes now: one that is confirmed -/
def MinA (w : World) (A B ob mb hm dm wm sm cb : Nat) (ht gf : Int) (HM : HM') (SM : SM') (M : EM) (c : Nat) (x : InD) (o : OutD) (id : List Nat) (e : Ending) (w' : World) : Prop :=
  (∃ g k, e = .returned (.slice (some ⟨g, 0, none⟩) 1 k)) ∧ (∃ a k, Led w' A B ob mb hm dm wm sm cb (ht + 1) gf (.slice none 0 0) (cnfM HM x id (o.at' a k) ht) (upd SM (x.tx, x.out) (some id)) M (c + 1)) ∧ Keep (fun i => i = cb ∨ i = hm ∨ i = sm ∨ i = dm ∨ i = wm) w w'
set_option maxRecDepth 100000 in
set_option maxHeartbeats 16000000 in
theorem cmineA_walk {w : World} {A B ob mb hm dm wm sm cb c : Nat} {ht gf : Int} {P : Value} {HM : HM'} {SM : SM'} {M : EM} (h : Led w A B ob mb hm dm wm sm cb ht gf P HM SM M c) (hh : ht < 1073741824) (hc : c < 1000000) (t : TxD) (hp : PoolAt w B P t) (x : InD) (o : OutD) (hx : t.ins = [x]) (ho : t.outs = [o]) (h4 : o.paths.length ≤ 4) (hP : ∀ x ∈ t.ins, easyIn HM M (idB t) x) (h0 : tryC HM SM M ht t = 0) :
    Calls Tryd.prog 15 #[.pointer (some ⟨cb, 0, none⟩), .nilFunc] w (MinA w A B ob mb hm dm wm sm cb ht gf HM SM M c x o (idB t)) := by
  have H := hid h
  have HB := hid h.hb
  have PA := hid hp
  have OD := hid h.ord
  have LE := hid h.le
  obtain ⟨g, q, hPe, hr, hgB⟩ := hp.ex
  subst hPe
  have RP := hid hr
  have GB := hid hgB
  have c1 := h.ch.c1
  have c6 := h.ch.c6
  have t0 : decide ((1073741824 : Int) ≤ ht) = false := decide_eq_false (by omega)
  obtain ⟨h1, hh1⟩ : ∃ h1, h1 = ht + 1 := ⟨_, rfl⟩
  have r1 : IntKind.i64.wrap (ht + 1) = h1 := by have := HB.out; rw [IntKind.wrap_i64]; omega
  have HH := hid hh1
  have HLT := hid hh
  have HC := hid hc
  have TIN := hid hx
  have TOU := hid ho
  have H4 := hid h4
  obtain ⟨tc, htc⟩ : ∃ tc, tc = t.cells := ⟨_, rfl⟩
  have TCE := hid htc
  have TL := hid (show tc.length = 2 by rw [htc]; rfl)
  have hiT := hid (show (Tryd.prog.info? 25).map (·.size) = some tc.length by rw [TL.out]; kernel_rfl)
  have hiTa := hid (show (Tryd.prog.info? 25).map (·.size) = some tc.toArray.size by rw [List.size_toArray, TL.out]; kernel_rfl)
  have hoT := hid (show 2 = tc.toArray.size by rw [List.size_toArray, TL.out])
  have h1T := hid (show (tc.toArray.all fun x => x.oneCell') = true by rw [htc]; exact all_oneCell_toArray (TxD.one t))
  have TR := fun (wx : World) (bx : Below w.heap.size w wx) => hid (show Calls Tryd.prog 30 #[.pointer (some ⟨cb, 0, none⟩), .agg tc.toArray] wx (fun e w' => e = .returned (.int .i64 0) ∧ Below wx.heap.size wx w') from by rw [htc]; have := (h.below bx).try_walk t (hp.good.below bx) hP; rw [h0] at this; exact this)
  have CI := fun (wx : World) (bx : Below w.heap.size w wx) => hid (show Calls Tryd.prog 9 #[.agg tc.toArray] wx _ from by rw [htc]; exact cid_walk t wx (hp.good.below bx) (h.tabs.below bx))
  have rT0 := hid (show w.rangeAt g 0 tc from by
    obtain ⟨_, _, _, _, b, off, ha, hcl⟩ := hr
    have := ha (by decide)
    simp only [Option.some.injEq, Addr.mk.injEq, and_true] at this
    obtain ⟨rfl, rfl⟩ := this
    rw [htc]; exact hcl)
  have t1 : decide ((0 : Int) < 1) = true := by decide
  have nq := nil_eql
  have ng := nil_guard
  clear h hh hp hr hgB hh1 htc hc hx ho h4 hP h0
  go_enter Tryd.func15, Tryd.ntmps15
  go_upto_region 6 with (fail)
  go_loopw [5, 6, 27] (fun x5 x6 x27 wr => (x5 = .slice none 0 0 ∧ x6 = .slice none 0 0 ∧ x27 = .int .i64 0 ∧ wr = w) ∨
    (∃ v5, x5 = v5 ∧ x6 = .slice none 0 0 ∧ x27 = .int .i64 1 ∧ (∃ g k, v5 = .slice (some ⟨g, 0, none⟩) 1 k) ∧ (∃ a k, Led wr A B ob mb hm dm wm sm cb ht gf (.slice (some ⟨g, 0, none⟩) 1 q) (cnfM HM x (idB t) (o.at' a k) ht) (upd SM (x.tx, x.out) (some (idB t))) M (c + 1)) ∧ Keep (fun i => i = cb ∨ i = hm ∨ i = sm ∨ i = dm ∨ i = wm) w wr)) (fun _ _ x27 _ => 1 - (intOf x27).toNat)
  case atStart => exact .inl ⟨rfl, rfl, rfl, rfl⟩
  case round =>
    rcases hrel with ⟨rfl, rfl, rfl, e⟩ | ⟨v5, rfl, rfl, rfl, hv, hL, hK⟩
    · have EW := hid e
      clear e c1 c6
      have rT := hid (show wr.rangeAt g 0 tc from by rw [EW.out]; exact rT0.out)
      have rTo := rT.out
      go_upto_region 8 with (first | with_reducible refine wpList_load_mid rfl _ _ rfl g 0 rfl tc _ rTo Tryd.underlying25 rfl hiT.out ?_ | (refine wpList_store_row rfl _ _ _ rfl wr.heap.size tc.toArray rfl rfl _ _ (heap_alloc_new _ _) hiTa.out hoT.out h1T.out ?_; refine laidW (F := fun w3 => wpList _ _ _ _ _ w3) ?_; intro w5 h5 b5))
      have B5 := hid (show Below w.heap.size w w5 from by have := b5.out; rw [EW.out] at this; exact this)
      have HX5 := hid h5.out
      have HX := hid (show w.heap.size = wr.heap.size from by rw [EW.out])
      clear h5 b5 rTo
      have rT5 := row_range HX5.out
      go_frame
      go_wp2_with (with_reducible refine wpList_load_mid rfl _ _ rfl wr.heap.size 0 rfl tc _ rT5 Tryd.underlying25 rfl hiT.out ?_)
      refine (CI w5 B5.out).out.mono ?_
      rintro e w6 ⟨rfl, b6⟩
      obtain ⟨id, hid'⟩ : ∃ id, id = idB t := ⟨_, rfl⟩
      rw [← hid']
      have IDE := hid hid'
      have IDL := hid (show id.length = 32 by rw [hid']; exact (idB_ok t).1)
      have B6 := hid (show Below w.heap.size w w6 from B5.out.trans (b6.mono B5.out.size))
      have HX6 := hid (heap_keep HX5.out b6)
      have hiH := hid (show (Tryd.prog.info? 27).map (·.size) = some (nums .u8 id).toArray.size by rw [List.size_toArray, nums_length, IDL.out]; kernel_rfl)
      have hiHl := hid (show (Tryd.prog.info? 27).map (·.size) = some (nums .u8 id).length by rw [nums_length, IDL.out]; kernel_rfl)
      have hoH := hid (show 32 = (nums .u8 id).toArray.size by rw [List.size_toArray, nums_length, IDL.out])
      have h16 := hid (all_oneCell_toArray (nums_oneCell .u8 id))
      clear b6 rT5 hid'
      go_upto_region 9 with (refine wpList_store_row rfl _ _ _ rfl w6.heap.size (nums .u8 id).toArray rfl rfl _ _ (heap_alloc_new _ _) hiH.out hoH.out h16.out ?_; refine laidW (F := fun w4 => wpList _ _ _ _ _ w4) ?_; intro w7 h7 b7)
      have B7 := hid (show Below w.heap.size w w7 from B6.out.trans (b7.out.mono B6.out.size))
      have HX7 := hid (heap_keep HX6.out b7.out)
      have HI7 := hid h7.out
      have L7 := hid (show w6.heap.size < w7.heap.size from (Array.getElem?_eq_some_iff.1 h7.out).1)
      clear h7 b7
      have LIB := hid (show w.heap.size ≤ w6.heap.size from B6.out.size)
      generalize w6.heap.size = IB at *
      go_frame
      have rT7 := row_range HX7.out
      go_wp2_with (with_reducible refine wpList_load_midG rfl _ _ rfl wr.heap.size 0 rfl tc _ rT7 Tryd.underlying25 rfl hiT.out ?_)
      refine (TR w7 B7.out).out.mono ?_
      rintro e w8 ⟨rfl, b8⟩
      have B8 := hid (show Below w.heap.size w w8 from B7.out.trans (b8.mono B7.out.size))
      have HX8 := hid (heap_keep HX7.out b8)
      have HI8 := hid (heap_keep HI7.out b8)
      have v0 : ((0 : Int) == 0) = true := by decide
      clear b8 rT7
      go_upto_region 10 with (fail)
      have rT8 := row_range HX8.out
      have NO := hid (show ∀ i, B ≤ i → i ≠ hm ∧ i ≠ sm from fun i hi => by have := OD.out; omega)
      have CF := hid (cconfirm_walk (H.out.below B8.out) HLT.out HC.out t (PA.out.good.below B8.out) x o TIN.out TOU.out (fun ad ha => NO.out _ (PA.out.oa ad ha)) (fun ad ha => NO.out _ (PA.out.off o (by rw [TOU.out]; simp) ad ha)) H4.out)
      rw [← TCE.out, ← IDE.out] at CF
      clear v0
      go_wp2_with (with_reducible refine wpList_load_mid rfl _ _ rfl wr.heap.size 0 rfl tc _ rT8 Tryd.underlying25 rfl hiT.out ?_)
      refine CF.out.mono ?_
      rintro e w9 ⟨rfl, hL9, k9⟩
      have LD9 := hid hL9
      have K9 := hid k9
      have HI9 := hid (k9.heap HI8.out (by have := OD.out; have := LE.out; have := LIB.out; show ¬ (IB = hm ∨ IB = sm ∨ IB = dm ∨ IB = wm); omega))
      clear hL9 k9 rT8
      have rI9 := row_range HI9.out
      have hPi := hid (show (Tryd.prog.info? 27).map (·.size) = some 32 by kernel_rfl)
      have hPz := hid (show ((Tryd.prog.info? 27).bind (·.zero)).isSome = true by kernel_rfl)
      have PLi := hid (show (nums .u8 id).toArray.size = 32 by rw [List.size_toArray, nums_length, IDL.out])
      have ONEi := hid (show (nums .u8 id).toArray.toList.all Value.oneCell' = true from List.all_eq_true.2 (nums_oneCell .u8 id))
      have NIL := hid (show w9.ownsRow w9.heap.size 27 32 (.slice none 0 0) 0 [] from ⟨by simp, .inl ⟨rfl, rfl⟩⟩)
      go_upto_region 11 with (fail)
      go_wp2_with (first | with_reducible refine wpList_load_mid rfl _ _ rfl IB 0 rfl (nums .u8 id) _ rI9 Tryd.underlying27 rfl hiHl.out ?_ | with_reducible refine wpList_lit1 rfl _ _ _ rfl rfl Tryd.underlying50 hPi.out hPz.out PLi.out (by decide) (by decide) ?_ | (at_builtin; refine wpList_pushK rfl _ _ 50 rfl tyHs w9.heap.size NIL.out rfl rfl PLi.out ONEi.out (by decide) (by decide) (Nat.le_refl _) ?_; intro v10 w10 o10 k10 _; have O10 := hid o10; have B10 := hid (k10.below (fun i h => by cases h) (Nat.le_refl _) : Below w9.heap.size w9 w10); clear o10 k10))
      go_roundw
      case rel =>
        obtain ⟨g10, k10, rfl, _⟩ : ∃ g10 k10, v10 = .slice (some ⟨g10, 0, none⟩) 1 k10 ∧ True := by
          obtain ⟨a', c', e, _⟩ := Rd.of_owns O10.out
          subst e
          obtain ⟨g10, rfl, _⟩ := own_base O10.out (by decide)
          exact ⟨_, _, rfl, trivial⟩
        obtain ⟨a, k, hl⟩ := LD9.out
        refine .inr ⟨_, rfl, rfl, rfl, ⟨g10, k10, rfl⟩, ⟨a, k, by rw [← IDE.out]; exact hl.below B10.out⟩, (((Keep.of B8.out).trans (K9.out.mono fun i h => .inr h)).trans (Keep.of B10.out))⟩
      case measure => simp [intOf]
    · obtain ⟨a, k, hl⟩ := hL
      have LL := hid hl
      have HK := hid hK
      have HV := hid hv
      have c1' := hl.ch.c1
      have z1' := hl.ch.fz 1
      have t2 : decide ((1 : Int) < 1) = false := by decide
      obtain ⟨wo, rfl⟩ : ∃ wo, wo = wr := ⟨_, rfl⟩
      clear hl hK hv c1 c6 t0 t1
      go_upto_region 15 with (fail)
      have CH2 := hid (LL.out.ch.set1 h1)
      have F2 := hid (show Far cb wo (wo.setCell ⟨cb, 1, none⟩ (.int .i64 h1)) from Far.set _)
      clear c1' z1' r1
      generalize wo.setCell ⟨cb, 1, none⟩ (.int .i64 h1) = w2 at *
      have c6 := CH2.out.c6
      have z6 := CH2.out.fz 6
      go_upto_region 16 with (fail)
      have CH3 := hid (CH2.out.set6 (.slice none 0 0))
      have F3 := hid (show Far cb w2 (w2.setCell ⟨cb, 6, none⟩ (.slice none 0 0)) from Far.set _)
      clear c6 z6
      generalize w2.setCell ⟨cb, 6, none⟩ (.slice none 0 0) = w3 at *
      have t3 : decide ((0 : Int) < 0) = false := by decide
      go_upto_region 17 with (fail)
      go_loopw [70] (fun x70 wr => x70 = .int .i64 0 ∧ wr = w3) (fun _ _ => 0)
      case atStart => exact ⟨rfl, rfl⟩
      case round =>
        obtain ⟨rfl, e⟩ := hrel
        have E3 := hid e
        clear e
        go_wp2_with (fail)
        go_ret
        have k3 : Keep (fun i => i = cb) wo wr := by rw [E3.out]; exact (Keep.far' F2.out).trans (Keep.far' F3.out)
        obtain ⟨g5, k5, e5⟩ := HV.out
        refine ⟨⟨g5, k5, by rw [← e5]; rfl⟩, ⟨a, k, ?_⟩, HK.out.trans (k3.mono fun i h => .inl h)⟩
        rw [← HH.out]
        exact LL.out.struct k3 (fun i h => h) (by rw [E3.out]; exact CH3.out) (by have := HH.out; have := HLT.out; omega) H.out.gb
/-- what must wait still -/
def MinB (w : World) (A B ob mb hm dm wm sm cb : Nat) (ht gf : Int) (HM : HM') (SM : SM') (M : EM) (c : Nat) (t : TxD) (e : Ending) (w' : World) : Prop :=
  e = .returned (.slice none 0 0) ∧ (∃ P', PoolAt w' B P' t ∧ Led w' A B ob mb hm dm wm sm cb (ht + 1) gf P' HM SM M c) ∧ Keep (fun i => i = cb) w w'
set_option maxRecDepth 100000 in
set_option maxHeartbeats 16000000 in
theorem cmineB_walk {w : World} {A B ob mb hm dm wm sm cb c : Nat} {ht gf : Int} {P : Value} {HM : HM'} {SM : SM'} {M : EM} (h : Led w A B ob mb hm dm wm sm cb ht gf P HM SM M c) (hh : ht < 1073741824) (t : TxD) (hp : PoolAt w B P t) (hP : ∀ x ∈ t.ins, easyIn HM M (idB t) x) (h0 : tryC HM SM M ht t = 33) (h33 : tryC HM SM M (ht + 1) t = 0 ∨ tryC HM SM M (ht + 1) t = 33) :
    Calls Tryd.prog 15 #[.pointer (some ⟨cb, 0, none⟩), .nilFunc] w (MinB w A B ob mb hm dm wm sm cb ht gf HM SM M c t) := by
  have H := hid h
  have HB := hid h.hb
  have PA := hid hp
  have OD := hid h.ord
  have LE := hid h.le
  obtain ⟨g, q, hPe, hr, hgB⟩ := hp.ex
  subst hPe
  have RP := hid hr
  have GB := hid hgB
  have c1 := h.ch.c1
  have c6 := h.ch.c6
  have t0 : decide ((1073741824 : Int) ≤ ht) = false := decide_eq_false (by omega)
  obtain ⟨h1, hh1⟩ : ∃ h1, h1 = ht + 1 := ⟨_, rfl⟩
  have r1 : IntKind.i64.wrap (ht + 1) = h1 := by have := HB.out; rw [IntKind.wrap_i64]; omega
  have HH := hid hh1
  have HLT := hid hh
  obtain ⟨tc, htc⟩ : ∃ tc, tc = t.cells := ⟨_, rfl⟩
  have TCE := hid htc
  have TL := hid (show tc.length = 2 by rw [htc]; rfl)
  have hiT := hid (show (Tryd.prog.info? 25).map (·.size) = some tc.length by rw [TL.out]; kernel_rfl)
  have hiTa := hid (show (Tryd.prog.info? 25).map (·.size) = some tc.toArray.size by rw [List.size_toArray, TL.out]; kernel_rfl)
  have hoT := hid (show 2 = tc.toArray.size by rw [List.size_toArray, TL.out])
  have h1T := hid (show (tc.toArray.all fun x => x.oneCell') = true by rw [htc]; exact all_oneCell_toArray (TxD.one t))
  have TR := fun (wx : World) (bx : Below w.heap.size w wx) => hid (show Calls Tryd.prog 30 #[.pointer (some ⟨cb, 0, none⟩), .agg tc.toArray] wx (fun e w' => e = .returned (.int .i64 33) ∧ Below wx.heap.size wx w') from by rw [htc]; have := (h.below bx).try_walk t (hp.good.below bx) hP; rw [h0] at this; exact this)
  obtain ⟨cd, hcd⟩ : ∃ cd, cd = tryC HM SM M (ht + 1) t := ⟨_, rfl⟩
  have TR2 := fun (wx : World) (hl : Led wx A B ob mb hm dm wm sm cb (ht + 1) gf (.slice none 0 0) HM SM M c) (hg : t.good wx) => hid (show Calls Tryd.prog 30 #[.pointer (some ⟨cb, 0, none⟩), .agg tc.toArray] wx (fun e w' => e = .returned (.int .i64 (cd : Int)) ∧ Below wx.heap.size wx w') from by rw [htc, hcd]; exact hl.try_walk t hg hP)
  rw [← hcd] at h33
  have CI := fun (wx : World) (bx : Below w.heap.size w wx) => hid (show Calls Tryd.prog 9 #[.agg tc.toArray] wx _ from by rw [htc]; exact cid_walk t wx (hp.good.below bx) (h.tabs.below bx))
  have rT0 := hid (show w.rangeAt g 0 tc from by
    obtain ⟨_, _, _, _, b, off, ha, hcl⟩ := hr
    have := ha (by decide)
    simp only [Option.some.injEq, Addr.mk.injEq, and_true] at this
    obtain ⟨rfl, rfl⟩ := this
    rw [htc]; exact hcl)
  have t1 : decide ((0 : Int) < 1) = true := by decide
  have nq := nil_eql
  have ng := nil_guard
  clear h hh hp hr hgB hh1 htc hP h0 hcd
  go_enter Tryd.func15, Tryd.ntmps15
  go_upto_region 6 with (fail)
  go_loopw [5, 6, 27] (fun x5 x6 x27 wr => (x5 = .slice none 0 0 ∧ x6 = .slice none 0 0 ∧ x27 = .int .i64 0 ∧ wr = w) ∨
    (x5 = .slice none 0 0 ∧ (∃ v6, x6 = v6 ∧ wr.ownsRow w.heap.size 25 2 v6 1 tc) ∧ x27 = .int .i64 1 ∧ Below w.heap.size w wr)) (fun _ _ x27 _ => 1 - (intOf x27).toNat)
  case atStart => exact .inl ⟨rfl, rfl, rfl, rfl⟩
  case round =>
    rcases hrel with ⟨rfl, rfl, rfl, e⟩ | ⟨rfl, ⟨v6, rfl, o6⟩, rfl, hb⟩
    · have EW := hid e
      clear e c1 c6
      have rT := hid (show wr.rangeAt g 0 tc from by rw [EW.out]; exact rT0.out)
      have rTo := rT.out
      go_upto_region 8 with (first | with_reducible refine wpList_load_mid rfl _ _ rfl g 0 rfl tc _ rTo Tryd.underlying25 rfl hiT.out ?_ | (refine wpList_store_row rfl _ _ _ rfl wr.heap.size tc.toArray rfl rfl _ _ (heap_alloc_new _ _) hiTa.out hoT.out h1T.out ?_; refine laidW (F := fun w3 => wpList _ _ _ _ _ w3) ?_; intro w5 h5 b5))
      have B5 := hid (show Below w.heap.size w w5 from by have := b5.out; rw [EW.out] at this; exact this)
      have HX5 := hid h5.out
      have HX := hid (show w.heap.size = wr.heap.size from by rw [EW.out])
      clear h5 b5 rTo
      have rT5 := row_range HX5.out
      go_frame
      go_wp2_with (with_reducible refine wpList_load_mid rfl _ _ rfl wr.heap.size 0 rfl tc _ rT5 Tryd.underlying25 rfl hiT.out ?_)
      refine (CI w5 B5.out).out.mono ?_
      rintro e w6 ⟨rfl, b6⟩
      obtain ⟨id, hid'⟩ : ∃ id, id = idB t := ⟨_, rfl⟩
      rw [← hid']
      have IDE := hid hid'
      have IDL := hid (show id.length = 32 by rw [hid']; exact (idB_ok t).1)
      have B6 := hid (show Below w.heap.size w w6 from B5.out.trans (b6.mono B5.out.size))
      have HX6 := hid (heap_keep HX5.out b6)
      have hiH := hid (show (Tryd.prog.info? 27).map (·.size) = some (nums .u8 id).toArray.size by rw [List.size_toArray, nums_length, IDL.out]; kernel_rfl)
      have hiHl := hid (show (Tryd.prog.info? 27).map (·.size) = some (nums .u8 id).length by rw [nums_length, IDL.out]; kernel_rfl)
      have hoH := hid (show 32 = (nums .u8 id).toArray.size by rw [List.size_toArray, nums_length, IDL.out])
      have h16 := hid (all_oneCell_toArray (nums_oneCell .u8 id))
      clear b6 rT5 hid'
      go_upto_region 9 with (refine wpList_store_row rfl _ _ _ rfl w6.heap.size (nums .u8 id).toArray rfl rfl _ _ (heap_alloc_new _ _) hiH.out hoH.out h16.out ?_; refine laidW (F := fun w4 => wpList _ _ _ _ _ w4) ?_; intro w7 h7 b7)
      have B7 := hid (show Below w.heap.size w w7 from B6.out.trans (b7.out.mono B6.out.size))
      have HX7 := hid (heap_keep HX6.out b7.out)
      have HI7 := hid h7.out
      have L7 := hid (show w6.heap.size < w7.heap.size from (Array.getElem?_eq_some_iff.1 h7.out).1)
      clear h7 b7
      have LIB := hid (show w.heap.size ≤ w6.heap.size from B6.out.size)
      generalize w6.heap.size = IB at *
      go_frame
      have rT7 := row_range HX7.out
      go_wp2_with (with_reducible refine wpList_load_midG rfl _ _ rfl wr.heap.size 0 rfl tc _ rT7 Tryd.underlying25 rfl hiT.out ?_)
      refine (TR w7 B7.out).out.mono ?_
      rintro e w8 ⟨rfl, b8⟩
      have B8 := hid (show Below w.heap.size w w8 from B7.out.trans (b8.mono B7.out.size))
      have HX8 := hid (heap_keep HX7.out b8)
      have HI8 := hid (heap_keep HI7.out b8)
      have v0 : ((33 : Int) == 0) = false := by decide
      have ONET := hid (show tc.toArray.toList.all Value.oneCell' = true from List.all_eq_true.2 (by rw [TCE.out]; exact TxD.one t))
      have hPi := hid (show (Tryd.prog.info? 25).map (·.size) = some 2 by kernel_rfl)
      have hPz := hid (show ((Tryd.prog.info? 25).bind (·.zero)).isSome = true by kernel_rfl)
      have PLt := hid (show tc.toArray.size = 2 by rw [List.size_toArray, TL.out])
      have NIL := hid (show w8.ownsRow w8.heap.size 25 2 (.slice none 0 0) 0 [] from ⟨by simp, .inl ⟨rfl, rfl⟩⟩)
      clear b8 rT7
      go_upto_region 12 with (fail)
      have rT8 := row_range HX8.out
      clear v0
      go_wp2_with (first | with_reducible refine wpList_load_mid rfl _ _ rfl wr.heap.size 0 rfl tc _ rT8 Tryd.underlying25 rfl hiT.out ?_ | with_reducible refine wpList_lit1 rfl _ _ _ rfl rfl Tryd.underlying79 hPi.out hPz.out PLt.out (by decide) (by decide) ?_ | (at_builtin; refine wpList_pushK rfl _ _ 79 rfl tyTx w8.heap.size NIL.out rfl rfl PLt.out ONET.out (by decide) (by decide) (Nat.le_refl _) ?_; intro v10 w10 o10 k10 _; have O10 := hid o10; have B10 := hid (k10.below (fun i h => by cases h) (Nat.le_refl _) : Below w8.heap.size w8 w10); clear o10 k10))
      go_roundw
      case rel => exact .inr ⟨rfl, ⟨v10, rfl, own_mono (by have := O10.out; simpa using this) B8.out.size⟩, rfl, B8.out.trans (B10.out.mono B8.out.size)⟩
      case measure => simp [intOf]
    · obtain ⟨a6', q6', e6, _⟩ := Rd.of_owns o6
      subst e6
      obtain ⟨g6, rfl, lg6⟩ := own_base o6 (by decide)
      have O6 := hid o6
      have BW := hid hb
      have LG6 := hid lg6
      have LL := hid (H.out.below hb)
      have c1' := LL.out.ch.c1
      have z1' := LL.out.ch.fz 1
      have t2 : decide ((1 : Int) < 1) = false := by decide
      obtain ⟨wo, rfl⟩ : ∃ wo, wo = wr := ⟨_, rfl⟩
      clear o6 hb lg6 c1 c6 t0 t1 TR CI
      go_upto_region 15 with (fail)
      have CH2 := hid (LL.out.ch.set1 h1)
      have F2 := hid (show Far cb wo (wo.setCell ⟨cb, 1, none⟩ (.int .i64 h1)) from Far.set _)
      clear c1' z1' r1
      generalize wo.setCell ⟨cb, 1, none⟩ (.int .i64 h1) = w2 at *
      have c6 := CH2.out.c6
      have z6 := CH2.out.fz 6
      go_upto_region 16 with (fail)
      have CH3 := hid (CH2.out.set6 (.slice none 0 0))
      have F3 := hid (show Far cb w2 (w2.setCell ⟨cb, 6, none⟩ (.slice none 0 0)) from Far.set _)
      clear c6 z6
      generalize w2.setCell ⟨cb, 6, none⟩ (.slice none 0 0) = w3 at *
      have t3 : decide ((0 : Int) < 1) = true := by decide
      have K3 := hid (show Keep (fun i => i = cb) w w3 from ((Keep.of BW.out).trans (Keep.far' F2.out)).trans (Keep.far' F3.out))
      have L3 := hid (show Led w3 A B ob mb hm dm wm sm cb (ht + 1) gf (.slice none 0 0) HM SM M c from H.out.struct K3.out (fun i h => h) (by rw [← HH.out]; exact CH3.out) (by have := HLT.out; omega) H.out.gb)
      have CBL := hid (show cb < w.heap.size from by have := OD.out; have := LE.out; omega)
      have O63 := hid ((Keep.far' F3.out).own ((Keep.far' F2.out).own O6.out (fun g hg e => by have : g = g6 := (Option.some.inj (show some g6 = some g from hg)).symm; have := LG6.out; have := CBL.out; omega)) (fun g hg e => by have : g = g6 := (Option.some.inj (show some g6 = some g from hg)).symm; have := LG6.out; have := CBL.out; omega))
      have P3 := hid (PA.out.keep K3.out (fun i h => by have := OD.out; omega))
      go_upto_region 17 with (fail)
      go_loopw [70] (fun x70 wr => (x70 = .int .i64 0 ∧ wr = w3) ∨ (x70 = .int .i64 1 ∧ (∃ P', PoolAt wr B P' t ∧ Led wr A B ob mb hm dm wm sm cb (ht + 1) gf P' HM SM M c) ∧ Keep (fun i => i = cb) w wr)) (fun x70 _ => 1 - (intOf x70).toNat)
      case atStart => exact .inl ⟨rfl, rfl⟩
      case round =>
        rcases hrel with ⟨rfl, e⟩ | ⟨rfl, hPL, hK⟩
        · have E3 := hid e
          clear e
          have rT := hid (show wr.rangeAt g6 0 tc from by rw [E3.out]; exact own_range O63.out)
          have rTo := rT.out
          go_upto_region 19 with (first | with_reducible refine wpList_load_mid rfl _ _ rfl g6 0 rfl tc _ rTo Tryd.underlying25 rfl hiT.out ?_ | (refine wpList_store_row rfl _ _ _ rfl wr.heap.size tc.toArray rfl rfl _ _ (heap_alloc_new _ _) hiTa.out hoT.out h1T.out ?_; refine laidW (F := fun w3 => wpList _ _ _ _ _ w3) ?_; intro w5 h5 b5))
          have HX5 := hid h5.out
          have B35 := hid (show Below w3.heap.size w3 w5 from by have := b5.out; rw [E3.out] at this; exact this)
          have XL := hid (show wr.heap.size = w3.heap.size from by rw [E3.out])
          clear h5 b5 rTo
          have rT5 := row_range HX5.out
          go_frame
          go_wp2_with (with_reducible refine wpList_load_mid rfl _ _ rfl wr.heap.size 0 rfl tc _ rT5 Tryd.underlying25 rfl hiT.out ?_)
          refine (TR2 w5 (L3.out.below B35.out) (P3.out.good.below B35.out)).out.mono ?_
          rintro e w6 ⟨rfl, b6⟩
          have B36 := hid (show Below w3.heap.size w3 w6 from B35.out.trans (b6.mono B35.out.size))
          have HX6 := hid (heap_keep HX5.out b6)
          clear b6 rT5
          go_upto_region 20 with (fail)
          rename_i K aK
          have MID : ∀ v77 v78 v79 v80 v81 : Value, K ⟨List.toArray (Value.pointer (some ⟨cb, 0, none⟩) :: Value.nilFunc :: undef :: undef :: Value.slice none 0 0 :: Value.slice none 0 0 :: Value.slice (some ⟨g6, 0, none⟩) 1 q6' :: undef :: u8 :: u9 :: undef :: Value.pointer (some ⟨wr.heap.size, 0, none⟩) :: Value.int IntKind.i64 (cd : Int) :: Value.pointer (some ⟨cb, 0, none⟩) :: Value.bool false :: Value.bool false :: Value.pointer (some ⟨cb, 0, none⟩) :: Value.pointer (some ⟨cb, 0, none⟩) :: Value.pointer (some ⟨cb, 1, none⟩) :: Value.int IntKind.i64 ht :: Value.bool false :: Value.bool false :: Value.pointer (some ⟨cb, 0, none⟩) :: Value.pointer (some ⟨cb, 0, none⟩) :: Value.pointer (some ⟨cb, 6, none⟩) :: Value.slice (some ⟨g, 0, none⟩) 1 q :: Value.int IntKind.i64 1 :: Value.int IntKind.i64 1 :: Value.bool false :: u29 :: u30 :: u31 :: u32 :: u33 :: u34 :: u35 :: u36 :: u37 :: u38 :: u39 :: u40 :: u41 :: u42 :: u43 :: u44 :: u45 :: u46 :: u47 :: u48 :: u49 :: u50 :: u51 :: u52 :: u53 :: u54 :: u55 :: u56 :: u57 :: Value.pointer (some ⟨cb, 0, none⟩) :: Value.pointer (some ⟨cb, 0, none⟩) :: Value.pointer (some ⟨cb, 1, none⟩) :: Value.int IntKind.i64 ht :: Value.int IntKind.i64 h1 :: Value.pointer (some ⟨cb, 0, none⟩) :: Value.pointer (some ⟨cb, 1, none⟩) :: Value.pointer (some ⟨cb, 0, none⟩) :: Value.pointer (some ⟨cb, 0, none⟩) :: Value.pointer (some ⟨cb, 6, none⟩) :: Value.slice (some ⟨g6, 0, none⟩) 1 q6' :: Value.int IntKind.i64 1 :: Value.int IntKind.i64 0 :: Value.bool true :: Value.pointer (some ⟨g6, 0, none⟩) :: Value.agg tc.toArray :: Value.pointer (some ⟨cb, 0, none⟩) :: Value.agg tc.toArray :: Value.int IntKind.i64 (cd : Int) :: v77 :: v78 :: v79 :: v80 :: v81 :: (.bool true) :: u83 :: u84 :: u85 :: u86 :: u87 :: u88 :: u89 :: u90 :: u91 :: u92 :: u93 :: undef :: []), []⟩ w6 := by
            intro v77 v78 v79 v80 v81
            refine aK _ _ ?_
            have L6 := hid (L3.out.below B36.out)
            have P6 := hid (P3.out.below B36.out)
            have c6r := hid L6.out.ch.c6
            have rB := hid (row_range HX6.out)
            have TLL := hid TL.out
            have ONE2 := hid (show ∀ u ∈ tc, u.oneCell' = true by rw [TCE.out]; exact TxD.one t)
            have hPi := hid (show (Tryd.prog.info? 25).map (·.size) = some 2 by kernel_rfl)
            have hPz := hid (show ((Tryd.prog.info? 25).bind (·.zero)).isSome = true by kernel_rfl)
            have PLt := hid (show tc.toArray.size = 2 by rw [List.size_toArray, TL.out])
            go_upto_region 21 with (fail)
            refine wp_region_X (l := 10) (S := fun b w' => True ∧ (b = false → Below w6.heap.size w6 w')) (by kernel_rfl) (⟨trivial, fun _ => (Below.refl _ _).drew⟩) (fun hHeld => ?_)
            try simp only [List.size_toArray, List.length_cons, List.length_nil, Nat.reduceAdd, Array.replicate_succ, Array.replicate_zero, List.push_toArray, List.nil_append, List.cons_append]
            refine wpAnyX_takeE (i := 0) (oi := { dst := some 83, op := Op.move (Operand.tmp 0), type := 43, pos := "chain.go:351", after := #[], guard := none }) (v := ?v1001) rfl (by kernel_rfl) (by kernel_rfl) (by kernel_rfl) (fun _ _ _ h => h) rfl (by kernel_rfl) (by kernel_rfl) (by kernel_rfl) (Or.inl ⟨by rfl, ?hy1001⟩) hHeld ?_
            case hy1001 => (intro w hSw; (try dsimp only at hSw); go_simp; (try with_reducible rfl))
            (try simp only [Act.put, List.setIfInBounds_toArray, List.set_cons_zero, List.set_cons_succ])
            refine wpAnyX_takeE (i := 1) (oi := { dst := some 84, op := Op.move (Operand.tmp 0), type := 43, pos := "chain.go:351", after := #[], guard := none }) (v := ?v1002) rfl (by kernel_rfl) (by kernel_rfl) (by kernel_rfl) (fun _ _ _ h => h) rfl (by kernel_rfl) (by kernel_rfl) (by kernel_rfl) (Or.inl ⟨by rfl, ?hy1002⟩) hHeld ?_
            case hy1002 => (intro w hSw; (try dsimp only at hSw); go_simp; (try with_reducible rfl))
            (try simp only [Act.put, List.setIfInBounds_toArray, List.set_cons_zero, List.set_cons_succ])
            refine wpAnyX_takeE (i := 2) (oi := { dst := some 85, op := Op.nilCheck (Operand.tmp 84), type := 0, pos := "chain.go:351", after := #[{ on := 1, ground := Ground.data }], guard := none }) (v := ?v1003) rfl (by kernel_rfl) (by kernel_rfl) (by kernel_rfl) (fun _ _ _ h => h) rfl (by kernel_rfl) (by kernel_rfl) (by kernel_rfl) (Or.inl ⟨by rfl, ?hy1003⟩) hHeld ?_
            case hy1003 => (intro w hSw; (try dsimp only at hSw); go_simp; (try with_reducible rfl))
            (try simp only [Act.put, List.setIfInBounds_toArray, List.set_cons_zero, List.set_cons_succ])
            refine wpAnyX_takeE (i := 3) (oi := { dst := some 86, op := Op.fieldAddr 81 (Operand.tmp 85) 6, type := 0, pos := "chain.go:351", after := #[{ on := 2, ground := Ground.data }], guard := none }) (v := ?v1004) rfl (by kernel_rfl) (by kernel_rfl) (by kernel_rfl) (fun _ _ _ h => h) rfl (by kernel_rfl) (by kernel_rfl) (by kernel_rfl) (Or.inl ⟨by rfl, ?hy1004⟩) hHeld ?_
            case hy1004 => (intro w hSw; (try dsimp only at hSw); go_simp; (try with_reducible rfl))
            (try simp only [Act.put, List.setIfInBounds_toArray, List.set_cons_zero, List.set_cons_succ])
            refine wpAnyX_takeE (i := 4) (oi := { dst := some 87, op := Op.load 79 (Operand.tmp 86), type := 79, pos := "chain.go:351", after := #[{ on := 3, ground := Ground.data }], guard := none }) (v := (.slice none 0 0)) rfl (by kernel_rfl) (by kernel_rfl) (by kernel_rfl) (fun _ _ _ h => h) rfl (by kernel_rfl) (by kernel_rfl) (by kernel_rfl) (Or.inl ⟨by rfl, fun w h => by have c9 := cell_keep (h.2 rfl) c6r.out; go_simp⟩) hHeld ?_
            (try simp only [Act.put, List.setIfInBounds_toArray, List.set_cons_zero, List.set_cons_succ])
            refine' wpAnyX_takeE (i := 5) (oi := { dst := some 88, op := Op.load 25 (Operand.tmp 11), type := 25, pos := "chain.go:351", after := #[], guard := none }) (v := _) rfl (by kernel_rfl) (by kernel_rfl) (by kernel_rfl) (fun _ _ _ h => h) rfl (by kernel_rfl) (by kernel_rfl) (by kernel_rfl) (yieldsIf_load_mid (by rfl) _ _ rfl wr.heap.size 0 rfl tc _ (fun _ h => range_keep (h.2 rfl) rB.out) Tryd.underlying25 rfl hiT.out) hHeld ?_
            (try simp only [Act.put, List.setIfInBounds_toArray, List.set_cons_zero, List.set_cons_succ])
            refine wpAnyX_ready (rs := [6]) (by kernel_rfl) (by simp) ?_
            refine AllReadyX.cons (o := { dst := some 89, op := Op.buildSlice 79 1 #[(0, Operand.tmp 88)], type := 79, pos := "chain.go:351", after := #[{ on := 5, ground := Ground.data }], guard := none }) rfl (b := false) (by kernel_rfl) (fun K hK => ?_) ?_
            have S0 := hid (hHeld.2 rfl); rw [if_pos (by rfl)]; refine wp_lit1 _ _ _ rfl rfl Tryd.underlying79 hPi.out hPz.out PLt.out (by decide) (by decide) ?_; (first | refine newZ ?_ | refine newZd ?_); intro wl hl bl; have HL := hid hl; have BL := hid bl; clear hl bl
            refine hK.out _ _ (⟨trivial, fun e => (hHeld.2 e).trans (BL.out.mono (hHeld.2 e).size)⟩) (fun hHeld => ?_)
            clear hK K
            (try simp only [List.setIfInBounds_toArray, List.set_cons_zero, List.set_cons_succ])
            refine wpAnyX_ready (rs := [7]) (by kernel_rfl) (by simp) ?_
            refine AllReadyX.cons (o := { dst := some 90, op := Op.call { callee := Callee.builtin Builtin.append, args := #[Operand.tmp 87, Operand.tmp 89], argTypes := #[79, 79] }, type := 79, pos := "chain.go:351", after := #[{ on := 4, ground := Ground.data }, { on := 6, ground := Ground.data }], guard := none }) rfl (b := false) (by kernel_rfl) (fun K hK => ?_) ?_
            have S1 := hid (hHeld.2 rfl); rw [if_pos (by rfl)]; refine wp_pushK _ _ 79 rfl tyTx w6.heap.size (v := .slice none 0 0) (n := 0) (xs := []) ⟨by simp, .inl ⟨rfl, rfl⟩⟩ rfl rfl HL.out TLL.out ONE2.out (by decide) (by decide) S1.out.size ?_; intro v11 w11 o11 k11 _; have b11 := k11.below (fun i h => by cases h) (Nat.le_refl _); have O11 := hid o11; have B11 := hid b11; clear o11 k11 b11
            refine hK.out _ _ (⟨trivial, fun e => (hHeld.2 e).trans (B11.out.mono (hHeld.2 e).size)⟩) (fun hHeld => ?_)
            clear hK K
            (try simp only [List.setIfInBounds_toArray, List.set_cons_zero, List.set_cons_succ])
            refine wpAnyX_takeA (i := 8) (oi := { dst := some 91, op := Op.nilCheck (Operand.tmp 83), type := 0, pos := "chain.go:351", after := #[{ on := 0, ground := Ground.data }, { on := 0, ground := Ground.phase }, { on := 1, ground := Ground.phase }, { on := 2, ground := Ground.phase }, { on := 3, ground := Ground.phase }, { on := 4, ground := Ground.phase }, { on := 5, ground := Ground.phase }, { on := 6, ground := Ground.phase }, { on := 7, ground := Ground.phase }], guard := none }) (v := ?v1005) rfl (by kernel_rfl) (by kernel_rfl) (by kernel_rfl) (fun _ _ _ h => h) rfl (by kernel_rfl) (fun _ h => ⟨h.1, nofun⟩) (b := false) (by kernel_rfl) (Or.inl ⟨by rfl, ?hy1005⟩) hHeld ?_
            case hy1005 => (intro w hSw; (try dsimp only at hSw); go_simp; (try with_reducible rfl))
            (try simp only [Act.put, List.setIfInBounds_toArray, List.set_cons_zero, List.set_cons_succ])
            refine wpAnyX_takeE (i := 9) (oi := { dst := some 92, op := Op.fieldAddr 81 (Operand.tmp 91) 6, type := 0, pos := "chain.go:351", after := #[{ on := 8, ground := Ground.data }, { on := 0, ground := Ground.phase }, { on := 1, ground := Ground.phase }, { on := 2, ground := Ground.phase }, { on := 3, ground := Ground.phase }, { on := 4, ground := Ground.phase }, { on := 5, ground := Ground.phase }, { on := 6, ground := Ground.phase }, { on := 7, ground := Ground.phase }], guard := none }) (v := ?v1006) rfl (by kernel_rfl) (by kernel_rfl) (by kernel_rfl) (fun _ _ _ h => h) rfl (by kernel_rfl) (by kernel_rfl) (by kernel_rfl) (Or.inl ⟨by rfl, ?hy1006⟩) hHeld ?_
            case hy1006 => (intro w hSw; (try dsimp only at hSw); go_simp; (try with_reducible rfl))
            (try simp only [Act.put, List.setIfInBounds_toArray, List.set_cons_zero, List.set_cons_succ])
            refine wpAnyX_ready (rs := [10]) (by kernel_rfl) (by simp) ?_
            refine AllReadyX.cons (o := { dst := none, op := Op.store 79 (Operand.tmp 92) (Operand.tmp 90), type := 0, pos := "chain.go:351", after := #[{ on := 9, ground := Ground.data }, { on := 7, ground := Ground.data }, { on := 7, ground := Ground.chain }, { on := 0, ground := Ground.phase }, { on := 1, ground := Ground.phase }, { on := 2, ground := Ground.phase }, { on := 3, ground := Ground.phase }, { on := 4, ground := Ground.phase }, { on := 5, ground := Ground.phase }, { on := 6, ground := Ground.phase }, { on := 7, ground := Ground.phase }], guard := none }) rfl (b := true) (by kernel_rfl) (fun K hK => ?_) ?_
            have S2 := hid (hHeld.2 rfl); have CH11 := hid (L6.out.ch.below S2.out); have c9 := CH11.out.c6; have z9 := CH11.out.fz 6; obtain ⟨a11, q11, rfl, _⟩ := Rd.of_owns O11.out; go_simp; refine setW CH11.out.cell ?_; intro w12 h12 f12; have H12 := hid h12; have F12 := hid f12; clear h12 f12 c9 z9
            refine hK.out _ _ (⟨trivial, nofun⟩) (fun hHeld => ?_)
            clear hK K
            (try simp only [List.setIfInBounds_toArray, List.set_cons_zero, List.set_cons_succ])
            refine wpAnyX_done (by kernel_rfl) ?_ _
            rotate_left
            exact AllReadyX.nil
            exact AllReadyX.nil
            exact AllReadyX.nil
            clear hHeld
            go_wp2_with (fail)
            go_roundw
            case rel =>
              have od := OD.out
              have le := LE.out
              have cbl := CBL.out
              have KF : Keep (fun i => i = cb) w w12 := ((K3.out.trans (Keep.of B36.out)).trans (Keep.of S2.out)).trans (Keep.far' F12.out)
              have k12 : Keep (fun i => i = cb) w6 w12 := (Keep.of S2.out).trans (Keep.far' F12.out)
              obtain ⟨g11, rfl, lg11⟩ := own_base O11.out (by decide)
              have l6 : w.heap.size ≤ w6.heap.size := (K3.out.trans (Keep.of B36.out)).size
              have o11 := (Keep.far' F12.out).own O11.out (fun g hg e => by have : g = g11 := (Option.some.inj (show some g11 = some g from hg)).symm; omega)
              obtain ⟨_, _, e1, r11⟩ := Rd.of_owns o11
              simp only [Value.slice.injEq] at e1
              obtain ⟨rfl, _, rfl⟩ := e1
              refine .inr ⟨rfl, ⟨.slice (some ⟨g11, 0, none⟩) 1 q11, ?_, L6.out.struct k12 (fun i h => h) ⟨H12.out⟩ ⟨Int.le_refl _, L6.out.hb.2⟩ L6.out.gb⟩, KF⟩
              have pk := P6.out.keep k12 (fun i h => by omega)
              refine ⟨⟨g11, q11, rfl, ?_, by omega⟩, pk.good, pk.ia, pk.oa, pk.off⟩
              rw [← TCE.out]
              simpa using r11
            case measure => simp [intOf]
          rcases h33 with h | h
          · subst h
            have v1 : ((0 : Int) == 0) = true := by decide
            go_wp2_with (fail)
            exact MID _ _ _ _ _
          · subst h
            have v1 : ((33 : Int) == 0) = false := by decide
            have v2 : ((33 : Int) == 33) = true := by decide
            go_wp2_with (fail)
            exact MID _ _ _ _ _
        · have HPL := hid hPL
          have HK := hid hK
          have t5 : decide ((1 : Int) < 1) = false := by decide
          clear hPL hK t3
          go_wp2_with (fail)
          go_ret
          obtain ⟨P', p1, p2⟩ := HPL.out
          exact ⟨rfl, ⟨P', p1, p2⟩, HK.out⟩
end Go.Proofs.YtdopbhahcpjjgaaDoor

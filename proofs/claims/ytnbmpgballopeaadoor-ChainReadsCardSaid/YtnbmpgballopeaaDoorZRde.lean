/- The reference's Decode. -/
import Derived.Test.YtnbmpgballopeaaDoorZNbr
import Derived.Test.YtnbmpgballopeaaDoorZRdp
import Derived.Test.YtnbmpgballopeaaDoorZPlo
import Derived.Test.YtnbmpgballopeaaDoorZRch
import Derived.Test.YtnbmpgballopeaaDoorZDecR
import Derived.Test.YtnbmpgballopeaaDoorZPointU
namespace Go.Proofs.YtnbmpgballopeaaDoor
open Go.RowKit
theorem run_b2 {P : Program} {w : World} {o : Oper} {ev : Operand → Value} {t : TypeId} {i0 i1 : Nat} {x0 x1 : Operand} {v0 v1 : Value} {cells : Array Value} (ho : o.op = .build t #[(i0, x0), (i1, x1)]) (h0 : ev x0 = v0) (h1 : ev x1 = v1) (hb : P.built t [(i0, v0), (i1, v1)] = some cells) : (execOp ev o).run P w = .ok (.value (.agg cells)) w :=
 run_buildN ho (by simpa [h0, h1] using hb)
structure RInS (w0 : World) (B T : Nat) (v : List Nat) (wr : World) (is : List InD) (vr : List Nat) (a : Option Addr) (c : Nat) (vi : Value) : Prop where
 row : wr.heap[T]? = some (.cells [vi, Value.slice none 0 0].toArray 35 (0, 0))
 own : wr.ownsRow B 95 130 vi is.length (is.flatMap InD.cells)
 ok : ∀ i ∈ is, i.ok
 eq : insR v = joinI is (insR vr)
 bd : ∀ d ∈ vr, d < 256
 sl : Sl .u8 wr a vr.length c vr
 ad : ∀ ad, a = some ad → ad.block < T
 keep : Keep (fun i => i = T) w0 wr
 cnt : is.length + vr.length ≤ v.length
structure ROutS (w0 : World) (B T : Nat) (vi : Value) (v : List Nat) (wr : World) (os : List OutD) (vr : List Nat) (a : Option Addr) (c : Nat) (vo : Value) : Prop where
 row : wr.heap[T]? = some (.cells [vi, vo].toArray 35 (0, 0))
 own : wr.ownsRow B 99 34 vo os.length (os.flatMap OutD.cells)
 ok : ∀ o ∈ os, o.good wr
 at' : ∀ o ∈ os, ∀ ad, o.pa = some ad → B ≤ ad.block ∧ ad.block < wr.heap.size ∧ vo.ownBlock ≠ some ad.block
 eq : outsR v = joinI (os.map OutD.bare) (outsR vr)
 bd : ∀ d ∈ vr, d < 256
 sl : Sl .u8 wr a vr.length c vr
 ad : ∀ ad, a = some ad → ad.block < T
 keep : Keep (fun i => i = T) w0 wr
 cnt : os.length + vr.length ≤ v.length
structure RPthS (w0 : World) (T O : Nat) (cn : Nat) (an v0 : List Nat) (n j : Nat) (wr : World) (vr : List Nat) (a : Option Addr) (c : Nat) (vp : Value) : Prop where
 jn : j ≤ n
 vq : vr = v0.drop (104 * j)
 bd : ∀ d ∈ vr, d < 256
 sl : Sl .u8 wr a vr.length c vr
 ad : ∀ ad, a = some ad → ad.block < T
 keep : Keep (fun i => i = O) w0 wr
 row : wr.heap[O]? = some (.cells (Value.int .u64 (cn : Int) :: vp :: nums .u8 an).toArray 99 (0, 0))
 own : wr.ownsRow w0.heap.size 101 98 vp j ((pathsD j v0).flatMap PathD.cells)
 ok : ∀ p ∈ pathsD j v0, p.ok
set_option maxRecDepth 100000 in
set_option maxHeartbeats 16000000 in
theorem rcdec_walk (a : Option Addr) (n cap : Nat) (bs : List Nat) (hbs : ∀ d ∈ bs, d < 256) (hn : n ≤ 16777216) (w : World) (h : Sl .u8 w a n cap bs) :
  Calls Tryd.prog 7 #[.slice a n cap] w (CDecR w bs) := by
 have BS := hid hbs
 have LEN := hid h.len
 have NLE := hid hn
 have BZ := hid (show Tryd.prog.built 35 [] = some zTx from by kernel_rfl)
 have hiZ := hid (show (Tryd.prog.info? 35).map (·.size) = some zTx.size from by kernel_rfl)
 have h1Z := hid (show (zTx.all fun x => x.oneCell') = true from by kernel_rfl)
 have ZT : ∀ w : World, (zeroValue 35).run Tryd.prog w = .ok (.agg zTx) w := zv_of (by kernel_rfl)
 have H0 := hid (heap_alloc_new w (.cells zTx 35))
 have B0 := hid ((Below.refl w.heap.size w).alloc (Nat.le_refl _) (.cells zTx 35))
 have DC := hid (rdec_walk a n cap bs hbs (by omega) _ (h.below B0.out))
 clear hbs hn h
 go_enter Tryd.func7, Tryd.ntmps7
 go_upto_region 1 with (fail)
 generalize w.alloc (.cells zTx 35) = w0 at *
 go_wp2_with (fail)
 refine DC.out.mono ?_
 rintro e w1 ⟨v, ls, rfl, ⟨la, lc, rfl, hR⟩, hls, h256, b1, _, hrb⟩
 have RC := hid hR
 have LS := hid hls
 have RBS := hid hrb
 have B1 := hid (show Below w.heap.size w w1 from B0.out.trans (b1.mono B0.out.size))
 have H1 := hid (heap_keep H0.out b1)
 have N1 := hid (show w.heap.size < w1.heap.size from (Array.getElem?_eq_some_iff.1 H1.out).1)
 clear DC hR hls hrb b1 h256
 obtain ⟨ec, hec⟩ : ∃ ec, ec = (decS bs).2 := ⟨_, rfl⟩
 rw [← hec]
 have EC := hid hec
 clear hec
 by_cases he : ec = 0
 case neg =>
  have u1 : ((ec : Int) != 0) = true := by rw [bne_iff_ne]; omega
  have E := hid (show decT bs = (([], []), ec) by rw [EC.out]; exact decT_bad (by rw [← EC.out]; exact he))
  clear he
  go_upto_region 3 with (fail)
  go_wp2_with (first | with_reducible refine wpList_mk0 BZ.out ?_ | with_reducible refine wpList_store_row rfl _ _ _ rfl w.heap.size zTx rfl rfl _ _ H1.out hiZ.out rfl h1Z.out ?_)
  refine bodyPost_ret (results_cell_tmp rfl _ _ w.heap.size _ zTx _ _ _ rfl rfl (setRow_heap _ _ _ _ _ _ H1.out) Tryd.underlying35 rfl hiZ.out) rfl ?_
  exact CDecR.bad E.out rfl (below_setRow B1.out (Nat.le_refl _) _)
 have u1 : ((ec : Int) != 0) = false := by rw [bne_eq_false_iff_eq]; omega
 have E0 := hid (show (decS bs).2 = 0 by rw [← EC.out]; exact he)
 clear he
 go_upto_region 4 with (fail)
 by_cases hl : ls.length = 2
 case neg =>
  have u2 : ((ls.length : Int) != 2) = true := by rw [bne_iff_ne]; omega
  have E := hid (decT_form E0.out (by rintro ⟨x, y, e, _⟩; have := congrArg List.length LS.out; rw [e, List.length_map] at this; exact hl this))
  clear hl
  go_upto_region 5 with (fail)
  go_wp2_with (first | with_reducible refine wpList_mk0 BZ.out ?_ | with_reducible refine wpList_store_row rfl _ _ _ rfl w.heap.size zTx rfl rfl _ _ H1.out hiZ.out rfl h1Z.out ?_)
  refine bodyPost_ret (results_cell_tmp rfl _ _ w.heap.size _ zTx _ _ _ rfl rfl (setRow_heap _ _ _ _ _ _ H1.out) Tryd.underlying35 rfl hiZ.out) rfl ?_
  exact CDecR.bad E.out rfl (below_setRow B1.out (Nat.le_refl _) _)
 obtain ⟨x, y, rfl⟩ : ∃ x y, ls = [x, y] := by
  match ls, hl with
  | [x, y], _ => exact ⟨x, y, rfl⟩
 obtain ⟨lb, lo, rfl, x0, x1, gx⟩ := RC.out.cells (j := 0) rfl
 obtain ⟨lb', lo', e', y0, y1, gy⟩ := RC.out.cells (j := 1) rfl
 simp only [Option.some.injEq, Addr.mk.injEq, and_true] at e'
 obtain ⟨rfl, rfl⟩ := e'
 have LSE := hid (show (decS bs).1 = [x.pr, y.pr] from LS.out.symm)
 have GX := hid gx
 have GY := hid gy
 have LX := hid ((RBS.out x (by simp)).lt)
 have LY := hid ((RBS.out y (by simp)).lt)
 have u2 : (([x, y].length : Int) != 2) = false := by rw [List.length_cons, List.length_cons, List.length_nil]; rfl
 have u2' : ((2 : Int) != 2) = false := rfl
 simp only [Nat.zero_mul, Nat.one_mul, Nat.add_zero] at x0 x1 y0 y1
 obtain ⟨xt, hxt⟩ : ∃ xt, xt = x.t := ⟨_, rfl⟩
 obtain ⟨yt, hyt⟩ : ∃ yt, yt = y.t := ⟨_, rfl⟩
 obtain ⟨xn, hxn⟩ : ∃ xn, xn = x.v.length := ⟨_, rfl⟩
 obtain ⟨yn, hyn⟩ : ∃ yn, yn = y.v.length := ⟨_, rfl⟩
 rw [← hxt] at x0
 rw [← hyt] at y0
 rw [← hxn] at x1
 rw [← hyn] at y1
 have X1 := hid x1
 have Y1 := hid y1
 have XN := hid (And.intro hxn hyn)
 have XT := hid (And.intro hxt hyt)
 clear gx gy hl RC RBS LS hxt hyt hxn hyn x1 y1
 by_cases hx0 : xt = 0
 case neg =>
  have u3 : ((xt : Int) != 0) = true := by rw [bne_iff_ne]; omega
  have E := hid (decT_form E0.out (by rintro ⟨p, q, e, h1, h2⟩; rw [LSE.out] at e; cases e; exact hx0 (XT.out.1.trans h1)))
  clear hx0
  go_upto_region 5 with (fail)
  go_wp2_with (first | with_reducible refine wpList_mk0 BZ.out ?_ | with_reducible refine wpList_store_row rfl _ _ _ rfl w.heap.size zTx rfl rfl _ _ H1.out hiZ.out rfl h1Z.out ?_)
  refine bodyPost_ret (results_cell_tmp rfl _ _ w.heap.size _ zTx _ _ _ rfl rfl (setRow_heap _ _ _ _ _ _ H1.out) Tryd.underlying35 rfl hiZ.out) rfl ?_
  exact CDecR.bad E.out rfl (below_setRow B1.out (Nat.le_refl _) _)
 have u3 : ((xt : Int) != 0) = false := by rw [bne_eq_false_iff_eq]; omega
 by_cases hy0 : yt = 2
 case neg =>
  have u4 : ((yt : Int) != 2) = true := by rw [bne_iff_ne]; omega
  have E := hid (decT_form E0.out (by rintro ⟨p, q, e, h1, h2⟩; rw [LSE.out] at e; cases e; exact hy0 (XT.out.2.trans h2)))
  clear hy0 hx0
  go_upto_region 5 with (fail)
  go_wp2_with (first | with_reducible refine wpList_mk0 BZ.out ?_ | with_reducible refine wpList_store_row rfl _ _ _ rfl w.heap.size zTx rfl rfl _ _ H1.out hiZ.out rfl h1Z.out ?_)
  refine bodyPost_ret (results_cell_tmp rfl _ _ w.heap.size _ zTx _ _ _ rfl rfl (setRow_heap _ _ _ _ _ _ H1.out) Tryd.underlying35 rfl hiZ.out) rfl ?_
  exact CDecR.bad E.out rfl (below_setRow B1.out (Nat.le_refl _) _)
 have u4 : ((yt : Int) != 2) = false := by rw [bne_eq_false_iff_eq]; omega
 have DT := hid (decT_ab E0.out LSE.out (XT.out.1.symm.trans hx0) (XT.out.2.symm.trans hy0))
 have XLE := hid (show x.v.length ≤ 16777216 ∧ y.v.length ≤ 16777216 from ⟨by have := decS_len BS.out E0.out x.pr (by rw [LSE.out]; simp); have := LEN.out; have := NLE.out; unfold LR.pr at *; dsimp only at *; omega, by have := decS_len BS.out E0.out y.pr (by rw [LSE.out]; simp); have := LEN.out; have := NLE.out; unfold LR.pr at *; dsimp only at *; omega⟩)
 clear hx0 hy0
 go_upto_region 6 with (fail)
 clear u1 u2 u2' u3 u4 x0 y0
 go_upto_region 7 with (first | with_reducible refine wpList_mk0 BZ.out ?_ | (refine wpList_store_row rfl _ _ _ rfl w1.heap.size zTx rfl rfl _ _ (heap_alloc_new _ _) hiZ.out rfl h1Z.out ?_; refine laidW (F := fun w2 => wpList _ _ _ _ _ w2) ?_; intro w2 h6 b6))
 have H6 := h6
 have H16 := hid (heap_keep H1.out b6.out)
 have x1 := cell_keep b6.out X1.out
 have Y6 := hid (cell_keep b6.out Y1.out)
 have GX6 := hid (GX.out.below b6.out)
 have GY6 := hid (GY.out.below b6.out)
 have B6 := hid (B1.out.trans (b6.out.mono B1.out.size))
 have L6 := hid (show w1.heap.size < w2.heap.size from (Array.getElem?_eq_some_iff.1 H6.out).1)
 have LB := hid (show lb < w1.heap.size from World.block_lt_of_cell? w1 _ X1.out)
 clear b6 h6 GX GY H1 X1 Y1
 have I0 := hid (show RInS w2 w2.heap.size w1.heap.size x.v w2 [] x.v x.a x.c (.slice none 0 0) from
  ⟨H6.out, ⟨by simp, .inl ⟨rfl, rfl⟩⟩, by simp, (joinI_nil (insR x.v) (insR_bad _ _)).symm, GX6.out.2.2.1, GX6.out.2.1, LX.out, Keep.refl _ _, by simp⟩)
 go_upto_region 8 with (fail)
 clear x1
 go_loopw [7] (fun x7 wr => ∃ is vr ra rc vi, x7 = .slice ra vr.length rc ∧ RInS w2 w2.heap.size w1.heap.size x.v wr is vr ra rc vi) (fun x7 _ => lenOf x7)
 case atStart => exact ⟨_, _, _, _, _, by rw [XN.out.1], I0.out⟩
 case round =>
  obtain ⟨is, vr, ra, rc, vi, rfl, hI⟩ := hrel
  obtain ⟨wo, rfl⟩ : ∃ wo, wo = wr := ⟨_, rfl⟩
  have IS := hid hI
  obtain ⟨rn, hrn⟩ : ∃ rn, rn = vr.length := ⟨_, rfl⟩
  rw [← hrn]
  have RN := hid hrn
  have LL := hid (show w.heap.size < w1.heap.size ∧ w1.heap.size < w2.heap.size ∧ w2.heap.size ≤ wo.heap.size from ⟨N1.out, L6.out, hI.keep.size⟩)
  have HTo := hid (hI.keep.heap H16.out (by have := LL.out; omega))
  have BWo := hid (show Below w.heap.size w wo from B6.out.trans (hI.keep.below (B := w.heap.size) (fun i e => by have := LL.out; omega) B6.out.size))
  clear hI hrn
  by_cases hv : 0 < rn
  case neg =>
   have u1 : decide (0 < (rn : Int)) = false := decide_eq_false (by omega)
   have u2 : decide (0 < rn) = false := decide_eq_false (by omega)
   obtain rfl : vr = [] := List.eq_nil_of_length_eq_zero (by have := RN.out; omega)
   have IE := hid (show insR x.v = (is, 0) by rw [IS.out.eq, insR_nil, joinI_ok])
   have KO := IS.out.keep
   have ll := LL.out
   have Yo := KO.cell Y6.out (by have := LB.out; show ¬ lb = _; omega)
   have Yo' : wo.cell? ⟨lb, lo + 3, none⟩ = some (.slice y.a yn y.c) := Yo
   have GYo := hid (show y.good wo from ⟨GY6.out.1, Rd.kept GY6.out.2.1 KO (fun ad ha e => by have := LY.out ad ha; omega), GY6.out.2.2⟩)
   have OIo := hid IS.out.own
   have IOK := hid IS.out.ok
   have O0 := hid (show ROutS wo wo.heap.size w1.heap.size vi y.v wo [] y.v y.a y.c (.slice none 0 0) from
    ⟨IS.out.row, ⟨by simp, .inl ⟨rfl, rfl⟩⟩, by simp, by simp, (joinI_nil (outsR y.v) (outsR_bad _ _)).symm, GYo.out.2.2.1, GYo.out.2.1, LY.out, Keep.refl _ _, by simp⟩)
   clear KO ll hv
   go_upto_region 18 with (fail)
   go_upto_region 19 with (fail)
   clear Yo Yo' u1 u2
   go_loopw [7] (fun x7 wr => ∃ os vr ra rc vo, x7 = .slice ra vr.length rc ∧ ROutS wo wo.heap.size w1.heap.size vi y.v wr os vr ra rc vo) (fun x7 _ => lenOf x7)
   case atStart => exact ⟨_, _, _, _, _, by rw [XN.out.2], O0.out⟩
   case round =>
    obtain ⟨os, vr, ra2, rc2, vo, rfl, hO⟩ := hrel
    obtain ⟨wp, rfl⟩ : ∃ wp, wp = wr := ⟨_, rfl⟩
    have OS := hid hO
    obtain ⟨rn2, hrn2⟩ : ∃ rn2, rn2 = vr.length := ⟨_, rfl⟩
    rw [← hrn2]
    have RN2 := hid hrn2
    have LP := hid (show wo.heap.size ≤ wp.heap.size from hO.keep.size)
    have HTp := hid (hO.keep.heap HTo.out (by have := LL.out; omega))
    have BWp := hid (show Below w.heap.size w wp from BWo.out.trans (hO.keep.below (B := w.heap.size) (fun i e => by have := LL.out; omega) BWo.out.size))
    have OIp := hid (hO.keep.own OIo.out (fun g' hg' e => by have h1 := OIo.out.lt _ hg'; have := LL.out; omega))
    clear hO hrn2
    by_cases hv2 : 0 < rn2
    case neg =>
     have u1 : decide (0 < (rn2 : Int)) = false := decide_eq_false (by omega)
     have u2 : decide (0 < rn2) = false := decide_eq_false (by omega)
     obtain rfl : vr = [] := List.eq_nil_of_length_eq_zero (by have := RN2.out; omega)
     have OE := hid (show outsR y.v = (os.map OutD.bare, 0) by rw [OS.out.eq, outsR_nil, joinI_ok])
     clear hv2
     go_upto_region 33 with (fail)
     obtain ⟨ia, ic, hvi, rdi⟩ := Rd.of_owns OIp.out
     obtain ⟨oa, oc, hvo, rdo⟩ := Rd.of_owns OS.out.own
     obtain ⟨t, ht⟩ : ∃ t, t = TxD.mk ia ic is oa oc os := ⟨_, rfl⟩
     have TC := hid (show [vi, vo] = t.cells from by rw [hvi, hvo, ht]; rfl)
     have TG := hid (show t.good wp from by rw [ht]; exact ⟨rdi, IOK.out, rdo, OS.out.ok⟩)
     obtain ⟨tc, htc⟩ : ∃ tc, tc = [vi, vo] := ⟨_, rfl⟩
     have TL := hid (show tc.length = 2 by rw [htc]; rfl)
     have hT : wp.heap[w1.heap.size]? = some (.cells tc.toArray 35 (0, 0)) := by rw [htc]; exact OS.out.row
     have HTC := hid (show tc = t.cells from htc.trans TC.out)
     have rT := row_range hT
     have HT := hid hT
     have hiT := hid (show (Tryd.prog.info? 35).map (·.size) = some tc.length by rw [TL.out]; kernel_rfl)
     have hiTa := hid (show (Tryd.prog.info? 35).map (·.size) = some tc.toArray.size by rw [List.size_toArray]; exact hiT.out)
     have hoT := hid (show zTx.size = tc.toArray.size by rw [show tc.toArray.size = 2 by rw [List.size_toArray]; exact TL.out]; rfl)
     have h1T := hid (show (tc.toArray.all fun x => x.oneCell') = true by rw [HTC.out]; exact all_oneCell_toArray (fun u hu => by simp only [TxD.cells, List.mem_cons, List.not_mem_nil, or_false] at hu; rcases hu with rfl | rfl <;> rfl))
     have TCE := hid htc
     have CK := hid (show Calls Tryd.prog 31 #[.agg tc.toArray] wp _ from by rw [HTC.out]; exact rtcheck_walk t wp TG.out)
     have CP := hid (show codeP (insR x.v).1 (outsR y.v).1 = t.code by rw [IE.out, OE.out]; show codeP is (os.map OutD.bare) = _; rw [codeP_bare, ht]; rfl)
     have DT2 := hid (show decT bs = if t.code ≠ 0 then (([], []), t.code) else ((is, os.map OutD.bare), 0) from by
      have d := DT.out
      rw [show x.pr.2 = x.v from rfl, show y.pr.2 = y.v from rfl, CP.out, IE.out, OE.out] at d
      rw [d, if_neg (by simp), if_neg (by simp)])
     clear hvi hvo ht htc rdi rdo hT
     go_wp2_with (with_reducible refine wpList_load_mid rfl _ _ rfl w1.heap.size 0 rfl tc _ rT Tryd.underlying35 rfl hiT.out ?_)
     refine CK.out.mono ?_
     rintro e wc ⟨rfl, bc⟩
     obtain ⟨cd, hcd⟩ : ∃ cd, cd = t.code := ⟨_, rfl⟩
     rw [← hcd]
     rw [← hcd] at DT2
     have HTc := hid (heap_keep HTp.out bc)
     have HT9 := hid (heap_keep HT.out bc)
     have BWc := hid (show Below w.heap.size w wc from BWp.out.trans (bc.mono BWp.out.size))
     have OIc := hid (ownKB OIp.out bc)
     have OOc := hid (ownKB OS.out.own bc)
     have OOK := hid (fun o ho => (OS.out.ok o ho).below bc)
     clear bc rT hcd CK
     by_cases hz : cd = 0
     case neg =>
      have v1 : ((cd : Int) != 0) = true := by rw [bne_iff_ne]; omega
      have E := hid (show decT bs = (([], []), cd) by rw [DT2.out, if_pos hz])
      clear hz
      go_upto_region 35 with (fail)
      go_wp2_with (first | with_reducible refine wpList_mk0 BZ.out ?_ | with_reducible refine wpList_store_row rfl _ _ _ rfl w.heap.size zTx rfl rfl _ _ HTc.out hiZ.out rfl h1Z.out ?_)
      refine bodyPost_ret (results_cell_tmp rfl _ _ w.heap.size _ zTx _ _ _ rfl rfl (setRow_heap _ _ _ _ _ _ HTc.out) Tryd.underlying35 rfl hiZ.out) rfl ?_
      exact CDecR.bad E.out rfl (below_setRow BWc.out (Nat.le_refl _) _)
     have v1 : ((cd : Int) != 0) = false := by rw [bne_eq_false_iff_eq]; omega
     have E := hid (show decT bs = ((is, os.map OutD.bare), 0) by rw [DT2.out, if_neg (by omega)])
     have rT9 := row_range HT9.out
     clear hz
     go_upto_region 36 with (fail)
     go_wp2_with (first | with_reducible refine wpList_load_mid rfl _ _ rfl w1.heap.size 0 rfl tc _ rT9 Tryd.underlying35 rfl hiT.out ?_ | with_reducible refine wpList_store_row rfl _ _ _ rfl w.heap.size tc.toArray rfl rfl _ _ HTc.out hiTa.out hoT.out h1T.out ?_)
     refine bodyPost_ret (results_cell_tmp rfl _ _ w.heap.size _ tc.toArray _ _ _ rfl rfl (setRow_heap _ _ _ _ _ _ HTc.out) Tryd.underlying35 rfl hiTa.out) rfl ?_
     have KF := Keep.far' (far_row wc w.heap.size tc.toArray)
     have ll := LL.out
     obtain ⟨ia', ic', hvi, rdi⟩ := Rd.of_owns (KF.own OIc.out (fun g' hg' e => by have := (OIc.out.lt _ hg').1; omega))
     obtain ⟨oa', oc', hvo, rdo⟩ := Rd.of_owns (KF.own OOc.out (fun g' hg' e => by have := (OOc.out.lt _ hg').1; omega))
     refine ⟨⟨ia', ic', is, oa', oc', os⟩, by rw [E.out, TCE.out, hvi, hvo]; rfl, ⟨rdi, IOK.out, rdo, fun o ho => OutD.good.kept (OOK.out o ho) KF (fun ad ha e => by have := (OS.out.at' o ho ad ha).1; omega)⟩, by rw [E.out], by rw [E.out], below_setRow BWc.out (Nat.le_refl _) _⟩
    have u1 : decide (0 < (rn2 : Int)) = true := decide_eq_true (by omega)
    have u2 : decide (0 < rn2) = true := decide_eq_true (by omega)
    obtain ⟨rb, ro, rfl⟩ : ∃ b o, ra2 = some ⟨b, o, none⟩ := by
     obtain ⟨_, _, _, _, b, o, h1, _⟩ := OS.out.sl
     exact ⟨b, o, h1 (by rw [← RN2.out]; exact hv2)⟩
    have RBL := hid (OS.out.ad _ rfl)
    have SL := hid (show Sl .u8 wp (some ⟨rb, ro, none⟩) rn2 rc2 vr from by have := OS.out.sl; rw [← RN2.out] at this; exact this)
    have VNE := hid (show vr ≠ [] from by rintro rfl; have := RN2.out; simp at this; omega)
    clear hv2
    have EB := fun (hh : vr.length < 41 ∨ vr.length < 41 + 104 * vr.getD 40 0) => hid (show decT bs = (([], []), 20) from by
     have e0 : (outsR y.v).2 = 20 := by rw [OS.out.eq]; exact joinI_bad (by rw [outsR_short VNE.out hh]) (by decide)
     rw [DT.out, show x.pr.2 = x.v from rfl, show y.pr.2 = y.v from rfl, IE.out, if_neg (by simp), e0, if_pos (by decide)])
    by_cases h41 : rn2 < 41
    case pos =>
     have u3 : decide ((rn2 : Int) < 41) = true := decide_eq_true (by omega)
     have u4 : decide (rn2 < 41) = true := decide_eq_true h41
     have E := EB (.inl (by rw [← RN2.out]; exact h41))
     clear h41 EB
     go_upto_region 21 with (fail)
     go_wp2_with (first | with_reducible refine wpList_mk0 BZ.out ?_ | with_reducible refine wpList_store_row rfl _ _ _ rfl w.heap.size zTx rfl rfl _ _ HTp.out hiZ.out rfl h1Z.out ?_)
     refine bodyPost_ret (results_cell_tmp rfl _ _ w.heap.size _ zTx _ _ _ rfl rfl (setRow_heap _ _ _ _ _ _ HTp.out) Tryd.underlying35 rfl hiZ.out) rfl ?_
     exact CDecR.bad E.out rfl (below_setRow BWp.out (Nat.le_refl _) _)
    have u3 : decide ((rn2 : Int) < 41) = false := decide_eq_false (by omega)
    have u4 : decide (rn2 < 41) = false := decide_eq_false h41
    obtain ⟨s8h, q8h⟩ := run_headR (h := 8) (H := 8) rfl SL.out (by omega)
    obtain ⟨o8, s8, q8⟩ := run_dropR (m := 8) (M := 8) rfl SL.out (by omega)
    obtain ⟨o41, s41, q41⟩ := run_dropR (m := 41) (M := 41) rfl SL.out (by omega)
    have S8H := hid s8h
    have S8 := hid s8
    have S41 := hid s41
    have RNL := hid (show 41 ≤ rn2 by omega)
    obtain ⟨cn, hcn⟩ : ∃ cn, cn = beVal (vr.take 8) := ⟨_, rfl⟩
    obtain ⟨an, han⟩ : ∃ an, an = (vr.drop 8).take 32 := ⟨_, rfl⟩
    obtain ⟨n2, hn2⟩ : ∃ n2, n2 = vr.getD 40 0 := ⟨_, rfl⟩
    have CN := hid hcn
    have AN := hid han
    have N2 := hid hn2
    have c40 := hid (show wp.cell? ⟨rb, ro + 40, none⟩ = some (.int .u8 (n2 : Int)) from by
     obtain ⟨b', o', h1, h2⟩ := SL.out.opened
     have := h1 (by omega)
     simp only [Option.some.injEq, Addr.mk.injEq, and_true] at this
     obtain ⟨rfl, rfl⟩ := this
     rw [hn2]; exact h2 40 (by omega))
    have N2L := hid (show n2 < 256 by rw [hn2]; exact getD_ltM OS.out.bd (by decide) 40)
    have ANO := hid (show H32b an by rw [han]; exact ⟨by rw [List.length_take, List.length_drop]; have := RN2.out; omega, fun d hd => OS.out.bd d (List.mem_of_mem_drop (List.mem_of_mem_take hd))⟩)
    have CNL := hid (show cn < 18446744073709551616 from by
     have h1 := beVal_lt (vr.take 8) (fun d hd => OS.out.bd d (List.mem_of_mem_take hd))
     rw [List.length_take, show min 8 vr.length = 8 by have := RN2.out; omega] at h1
     rw [hcn]; simpa using h1)
    obtain ⟨oc0, hoc0⟩ : ∃ oc0, oc0 = Value.int .u64 (cn : Int) :: Value.slice none 0 0 :: nums .u8 an := ⟨_, rfl⟩
    have BO := hid (brOtt an cn ANO.out.1)
    rw [← hoc0] at BO
    have OC0 := hid hoc0
    have OL0 := hid (show oc0.length = 34 by rw [hoc0, List.length_cons, List.length_cons, nums_length, ANO.out.1])
    obtain ⟨zo, hzo⟩ : ∃ zo : Array Value, zo = zOut := ⟨_, rfl⟩
    have ZO : ∀ w : World, (zeroValue 99).run Tryd.prog w = .ok (.agg zo) w := by rw [hzo]; exact zv_of (by kernel_rfl)
    have hiOa := hid (show (Tryd.prog.info? 99).map (·.size) = some oc0.toArray.size by rw [List.size_toArray, OL0.out]; kernel_rfl)
    have hoO := hid (show zo.size = oc0.toArray.size by rw [hzo, show oc0.toArray.size = 34 by rw [List.size_toArray]; exact OL0.out]; rfl)
    have h1O := hid (show (oc0.toArray.all fun x => x.oneCell') = true by rw [hoc0]; exact all_oneCell_toArray (fun u hu => by rcases List.mem_cons.1 hu with rfl | hu; rfl; rcases List.mem_cons.1 hu with rfl | hu; rfl; exact nums_oneCell _ _ u hu))
    have V8 := hid (show ∀ d ∈ vr.take 8, d < 256 from fun d hd => OS.out.bd d (List.mem_of_mem_take hd))
    clear hcn han hn2 hoc0 hzo s8h s8 s41 h41
    go_upto_region 22 with (fail)
    clear u1 u2 u3 u4
    rename_i K aK
    have MID : ∀ (bk : Nat) (v103 v104 v105 v106 v107 v108 v109 : Value) (w9 : World), wp.heap.size ≤ bk → w9.heap[bk]? = some (.cells oc0.toArray 99 (0, 0)) → Below wp.heap.size wp w9 → K ⟨List.toArray (Value.slice a n cap :: undef :: Value.pointer (some ⟨w.heap.size, 0, none⟩) :: u3 :: Value.slice (some ⟨lb, lo, none⟩) 2 lc :: Value.int IntKind.i64 (ec : Int) :: Value.pointer (some ⟨w1.heap.size, 0, none⟩) :: Value.slice (some ⟨rb, ro, none⟩) rn2 rc2 :: u8 :: u9 :: u10 :: Value.pointer (some ⟨bk, 0, none⟩) :: u12 :: u13 :: Value.tuple #[Value.slice (some ⟨lb, lo, none⟩) 2 lc, Value.int IntKind.i64 (ec : Int)] :: Value.slice a n cap :: Value.tuple #[Value.slice (some ⟨lb, lo, none⟩) 2 lc, Value.int IntKind.i64 (ec : Int)] :: Value.slice (some ⟨lb, lo, none⟩) 2 lc :: Value.int IntKind.i64 (ec : Int) :: Value.int IntKind.i64 (ec : Int) :: Value.bool false :: undef :: undef :: Value.slice (some ⟨lb, lo, none⟩) 2 lc :: Value.int IntKind.i64 2 :: Value.bool false :: Value.bool false :: Value.slice (some ⟨lb, lo, none⟩) 2 lc :: Value.pointer (some ⟨lb, lo, none⟩) :: Value.pointer (some ⟨lb, lo, none⟩) :: Value.int IntKind.u64 (xt : Int) :: Value.bool false :: Value.bool false :: Value.bool false :: Value.slice (some ⟨lb, lo, none⟩) 2 lc :: Value.pointer (some ⟨lb, lo + 2, none⟩) :: Value.pointer (some ⟨lb, lo + 2, none⟩) :: Value.int IntKind.u64 (yt : Int) :: Value.bool false :: Value.bool false :: undef :: Value.agg zTx :: Value.slice (some ⟨lb, lo, none⟩) 2 lc :: Value.pointer (some ⟨lb, lo, none⟩) :: Value.pointer (some ⟨lb, lo + 1, none⟩) :: Value.slice x.a xn x.c :: Value.slice ra rn rc :: Value.int IntKind.i64 (rn : Int) :: Value.bool false :: u49 :: u50 :: u51 :: u52 :: u53 :: u54 :: u55 :: u56 :: u57 :: u58 :: u59 :: u60 :: u61 :: u62 :: u63 :: u64 :: u65 :: u66 :: u67 :: u68 :: u69 :: u70 :: u71 :: u72 :: u73 :: u74 :: u75 :: u76 :: u77 :: u78 :: u79 :: u80 :: u81 :: u82 :: u83 :: u84 :: u85 :: u86 :: u87 :: u88 :: u89 :: u90 :: u91 :: Value.slice (some ⟨lb, lo, none⟩) 2 lc :: Value.pointer (some ⟨lb, lo + 2, none⟩) :: Value.pointer (some ⟨lb, lo + 2 + 1, none⟩) :: Value.slice y.a yn y.c :: Value.slice (some ⟨rb, ro, none⟩) rn2 rc2 :: Value.int IntKind.i64 (rn2 : Int) :: Value.bool true :: Value.slice (some ⟨rb, ro, none⟩) rn2 rc2 :: Value.int IntKind.i64 (rn2 : Int) :: Value.bool false :: u102 :: v103 :: v104 :: v105 :: v106 :: v107 :: v108 :: v109 :: u110 :: u111 :: u112 :: u113 :: u114 :: u115 :: u116 :: u117 :: u118 :: u119 :: u120 :: u121 :: u122 :: u123 :: u124 :: u125 :: u126 :: u127 :: u128 :: u129 :: u130 :: u131 :: u132 :: u133 :: u134 :: u135 :: u136 :: u137 :: u138 :: u139 :: u140 :: u141 :: u142 :: u143 :: u144 :: u145 :: u146 :: u147 :: u148 :: u149 :: u150 :: u151 :: u152 :: u153 :: u154 :: u155 :: u156 :: undef :: undef :: undef :: undef :: undef :: undef :: undef :: []), []⟩ w9 := by
     intro bk v103 v104 v105 v106 v107 v108 v109 w9 hb1 hb2 hb3
     refine aK _ _ ?_
     have BK1 := hid hb1
     have HB9 := hid hb2
     have B9 := hid hb3
     have LBK := hid (show bk < w9.heap.size from (Array.getElem?_eq_some_iff.1 hb2).1)
     have HT9 := hid (heap_keep HTp.out hb3)
     have BW9 := hid (BWp.out.trans (hb3.mono BWp.out.size))
     have c40 := cell_keep hb3 c40.out
     obtain ⟨rn3, hrn3⟩ : ∃ k, k = rn2 - 41 := ⟨_, rfl⟩
     rw [← hrn3] at q41 S41
     have RN3 := hid (show rn3 = rn2 - 41 from hrn3)
     obtain ⟨m104, hm104⟩ : ∃ k, k = 104 * n2 := ⟨_, rfl⟩
     have M104 := hid hm104
     have r1 : IntKind.i64.wrap (n2 : Int) = (n2 : Int) := by have := N2L.out; rw [IntKind.wrap_i64]; omega
     have r2 : IntKind.i64.wrap (104 * (n2 : Int)) = (m104 : Int) := by have := N2L.out; rw [IntKind.wrap_i64]; omega
     have n1 : (40 : Int) < (rn2 : Int) := by have := RNL.out; omega
     have n2' : ¬ ((rn2 : Int) ≤ 40) := by have := RNL.out; omega
     have n3 : ¬ (rn2 ≤ 40) := by have := RNL.out; omega
     have n4 : 40 < rn2 := by have := RNL.out; omega
     clear hb1 hb2 hb3 hrn3 hm104
     by_cases hsh : rn3 < m104
     case pos =>
      have u5 : decide ((rn3 : Int) < (m104 : Int)) = true := decide_eq_true (by omega)
      have u6 : decide (rn3 < m104) = true := decide_eq_true hsh
      have E := EB (.inr (by have := RN2.out; have := RN3.out; have := M104.out; have := N2.out; have := RNL.out; omega))
      clear hsh EB
      go_upto_region 26 with (fail)
      go_wp2_with (first | with_reducible refine wpList_mk0 BZ.out ?_ | with_reducible refine wpList_store_row rfl _ _ _ rfl w.heap.size zTx rfl rfl _ _ HT9.out hiZ.out rfl h1Z.out ?_)
      refine bodyPost_ret (results_cell_tmp rfl _ _ w.heap.size _ zTx _ _ _ rfl rfl (setRow_heap _ _ _ _ _ _ HT9.out) Tryd.underlying35 rfl hiZ.out) rfl ?_
      exact CDecR.bad E.out rfl (below_setRow BW9.out (Nat.le_refl _) _)
     have u5 : decide ((rn3 : Int) < (m104 : Int)) = false := decide_eq_false (by omega)
     have u6 : decide (rn3 < m104) = false := decide_eq_false hsh
     have LONG := hid (show ¬ vr.length < 41 + 104 * n2 by have := RN2.out; have := RN3.out; have := M104.out; have := RNL.out; omega)
     have V0L := hid (show (vr.drop 41).length = rn3 by rw [List.length_drop, RN3.out, RN2.out])
     clear hsh EB
     have P0 := hid (show RPthS w9 w1.heap.size bk cn an (vr.drop 41) n2 0 w9 (vr.drop 41) (some ⟨rb, o41, none⟩) (rc2 - 41) (.slice none 0 0) from
      ⟨Nat.zero_le _, by simp, fun d hd => OS.out.bd d (List.mem_of_mem_drop hd), by rw [V0L.out]; exact S41.out.below B9.out, fun ad ha => by cases ha; exact RBL.out, Keep.refl _ _, by have := HB9.out; rw [OC0.out] at this; exact this, ⟨by simp [pathsD], .inl ⟨rfl, rfl⟩⟩, by simp [pathsD]⟩)
     go_upto_region 28 with (fail)
     clear u5 u6 c40 r1 r2 n1 n2' n3 n4
     go_loopw [7, 13] (fun x7 x13 wr => ∃ (j : Nat) (vq : List Nat) (ra2 : Option Addr) (rc2 : Nat) (vp : Value), x13 = .int .i64 (j : Int) ∧ x7 = .slice ra2 vq.length rc2 ∧ RPthS w9 w1.heap.size bk cn an (vr.drop 41) n2 j wr vq ra2 rc2 vp) (fun _ x13 _ => n2 - (intOf x13).toNat)
     case atStart => exact ⟨0, _, _, _, _, rfl, by rw [V0L.out], P0.out⟩
     case round =>
      obtain ⟨j, vq, ra3, rc3, vp, rfl, rfl, hP⟩ := hrel
      obtain ⟨wq, rfl⟩ : ∃ wq, wq = wr := ⟨_, rfl⟩
      have PS := hid hP
      have QL := hid (show w9.heap.size ≤ wq.heap.size from hP.keep.size)
      obtain ⟨pa, pc, rfl, _⟩ := Rd.of_owns hP.own
      obtain ⟨vp, hvp⟩ : ∃ vp, vp = Value.slice pa j pc := ⟨_, rfl⟩
      obtain ⟨rn4, hrn4⟩ : ∃ k, k = vq.length := ⟨_, rfl⟩
      rw [← hrn4]
      have RN4 := hid hrn4
      have VP := hid hvp
      have OVP := hid (show wq.ownsRow w9.heap.size 101 98 vp j _ from by rw [hvp]; exact hP.own)
      have HOX := hid (show wq.heap[bk]? = some (.cells (Value.int .u64 (cn : Int) :: vp :: nums .u8 an).toArray 99 (0, 0)) from by rw [hvp]; exact hP.row)
      have OVL := hid (show ∀ i, vp.ownBlock = some i → w9.heap.size ≤ i ∧ i < wq.heap.size from fun i e => OVP.out.lt _ e)
      have L19 := hid (show w1.heap.size < w9.heap.size by have := LL.out; have := LP.out; have := B9.out.size; omega)
      clear hP hrn4 hvp
      by_cases hj : j < n2
      case neg =>
       have u1 : decide (j < n2) = false := decide_eq_false hj
       have u2 : decide ((j : Int) < (n2 : Int)) = false := decide_eq_false (by omega)
       obtain rfl : j = n2 := by have := PS.out.jn; omega
       clear hj
       go_upto_region 32 with (fail)
       clear u1 u2
       have ll := LL.out
       have lp := LP.out
       have lbk := LBK.out
       have bk1 := BK1.out
       have ql := QL.out
       have KPQ := hid (show Keep (fun _ => False) wp wq from (Keep.of B9.out).then PS.out.keep (fun i hi e => by omega))
       obtain ⟨psn, hpsn⟩ : ∃ psn, psn = pathsD j (vr.drop 41) := ⟨_, rfl⟩
       have PSL := hid (show psn.length = j by rw [hpsn]; exact pathsD_len _ _)
       obtain ⟨o, ho⟩ : ∃ o, o = OutD.mk cn pa pc psn an := ⟨_, rfl⟩
       have HOE := hid ho
       have OC := hid (show Value.int .u64 (cn : Int) :: vp :: nums .u8 an = o.cells by rw [ho, VP.out]; unfold OutD.cells; simp only [PSL.out])
       obtain ⟨oc, hoc⟩ : ∃ oc, oc = o.cells := ⟨_, rfl⟩
       have OLn := hid (show oc.length = 34 by rw [hoc, ← OC.out, List.length_cons, List.length_cons, nums_length, ANO.out.1])
       have hO := HOX.out
       rw [OC.out, ← hoc] at hO
       have RT := hid (KPQ.out.heap OS.out.row id)
       have OVq := hid (KPQ.out.own OS.out.own (fun g' hg' e => e))
       have OVo := hid (show ∀ i, vo.ownBlock = some i → wo.heap.size ≤ i ∧ i < wp.heap.size from fun i e => OS.out.own.lt _ e)
       have c0 : wq.cell? ⟨w1.heap.size, 1, none⟩ = some vo := gen_cell (j := 1) (row_range RT.out) rfl
       have rO := row_range hO
       have hiOl := hid (show (Tryd.prog.info? 99).map (·.size) = some oc.length from by rw [OLn.out]; kernel_rfl)
       have hPi := hid (show (Tryd.prog.info? 99).map (·.size) = some 34 by kernel_rfl)
       have hPz := hid (show ((Tryd.prog.info? 99).bind (·.zero)).isSome = true by kernel_rfl)
       have PL := hid (show oc.toArray.size = 34 by rw [List.size_toArray, OLn.out])
       have ONE := hid (show oc.toArray.toList.all Value.oneCell' = true from by rw [hoc]; exact List.all_eq_true.2 (OutD.one _))
       have OSL := hid (show os.length < 4294967296 from by have := OS.out.cnt; have := XLE.out; omega)
       have OCE := hid hoc
       have HPS := hid hpsn
       have L8q := hid (show wo.heap.size ≤ wq.heap.size by have := B9.out.size; omega)
       clear ho hoc hpsn ll lp lbk bk1 ql hO
       go_wp2_with (first | with_reducible refine wpList_load_mid rfl _ _ rfl bk 0 rfl oc _ rO Tryd.underlying99 rfl hiOl.out ?_ | with_reducible refine wpList_lit1 rfl _ _ _ rfl rfl Tryd.underlying33 hPi.out hPz.out PL.out (by decide) (by decide) ?_ | (at_builtin; refine wpList_pushK rfl _ _ 33 rfl tyROut wo.heap.size OVq.out rfl rfl PL.out ONE.out OSL.out (by decide) L8q.out ?_; intro v7 w7 own7 k7 nb7; obtain ⟨a7, q7, rfl, _⟩ := Rd.of_owns own7; have O7 := hid own7; have K7 := hid k7; have NB7 := hid nb7; have T7 := hid (k7.heap RT.out (fun e => by have := OVo.out _ e; have := LL.out; omega)); have c7 := gen_cell (j := 1) (row_range T7.out) rfl; have z7 : w7.frozen? ⟨w1.heap.size, 1, none⟩ = false := frozen_of_row _ _ _ _ _ T7.out; clear own7 k7 nb7))
       go_roundw
       case rel =>
        have FT : Far w1.heap.size w7 (w7.setCell ⟨w1.heap.size, 1, none⟩ (.slice a7 (os.length + 1) q7)) := Far.set _
        have ll := LL.out
        have lp := LP.out
        have lbk := LBK.out
        have bk1 := BK1.out
        have ql := QL.out
        have b9s := B9.out.size
        have own7 := (Keep.far' FT).own O7.out (fun g' hg' e => by have := (O7.out.lt _ hg').1; omega)
        have pog : o.good wq := by
         obtain ⟨pa', pc', e', rd⟩ := Rd.of_owns OVP.out
         rw [VP.out] at e'
         simp only [Value.slice.injEq] at e'
         obtain ⟨rfl, _, rfl⟩ := e'
         rw [HOE.out]
         refine ⟨CNL.out, ANO.out, ?_, ?_⟩
         ·show Rd wq 98 pa psn.length pc (psn.flatMap PathD.cells)
          rw [PSL.out, HPS.out]; exact rd
         ·show ∀ p ∈ psn, p.ok
          rw [HPS.out]; exact PS.out.ok
        have vz : vq = vr.drop (41 + 104 * j) := by rw [PS.out.vq, List.drop_drop]
        have hsz := K7.out.size
        have hsz2 := FT.size
        refine ⟨os ++ [o], vq, ra3, rc3, .slice a7 (os.length + 1) q7, by rw [RN4.out], heap_set (i := 1) _ T7.out, ?_, ?_, ?_, ?_, PS.out.bd, ?_, PS.out.ad, ?_, ?_⟩
        ·have e : (os ++ [o]).flatMap OutD.cells = os.flatMap OutD.cells ++ oc.toArray.toList := by rw [OCE.out]; simp
         rw [e, List.length_append]
         exact own7
        ·intro x hx
         rcases List.mem_append.1 hx with hx | hx
         ·have at1 := OS.out.at' x hx
          have g1 := OutD.good.kept (OS.out.ok x hx) KPQ.out (fun ad ha e => e)
          have g2 := OutD.good.kept g1 K7.out (fun ad ha e => (at1 ad ha).2.2 e)
          exact OutD.good.kept g2 (Keep.far' FT) (fun ad ha e => by have := at1 ad ha; omega)
         ·rw [List.mem_singleton.1 hx]
          have at2 : ∀ ad, o.pa = some ad → w9.heap.size ≤ ad.block ∧ ad.block < wq.heap.size := fun ad ha => OVL.out _ (by rw [HOE.out] at ha; have ha' : pa = some ad := ha; rw [VP.out, ha']; rfl)
          have g2 := OutD.good.kept pog K7.out (fun ad ha e => by have := OVo.out _ e; have := at2 ad ha; omega)
          exact OutD.good.kept g2 (Keep.far' FT) (fun ad ha e => by have := at2 ad ha; omega)
        ·intro x hx ad ha
         rcases List.mem_append.1 hx with hx | hx
         ·have at1 := OS.out.at' x hx ad ha
          refine ⟨at1.1, by omega, fun e => ?_⟩
          rcases NB7.out with h | h
          ·exact at1.2.2 (h ▸ e)
          ·rw [h] at e; have := Option.some.inj e; omega
         ·rw [List.mem_singleton.1 hx, HOE.out] at ha
          have ha' : pa = some ad := ha
          have at2 := OVL.out ad.block (by rw [VP.out, ha']; rfl)
          refine ⟨by omega, by omega, fun e => ?_⟩
          rcases NB7.out with h | h
          ·rw [h] at e; have := OVo.out _ e; omega
          ·rw [h] at e; have := Option.some.inj e; omega
        ·have er : rdOut vr = o.bare := by rw [HOE.out]; unfold rdOut OutD.bare; simp only [HPS.out]; rw [← N2.out, ← CN.out, ← AN.out]
         rw [OS.out.eq, outsR_step (by rw [← N2.out]; exact LONG.out), joinI_join, er, ← N2.out, ← vz, List.map_append]
         rfl
        ·have s1 := Rd.kept PS.out.sl K7.out (fun ad ha e => by have := OVo.out _ e; have := PS.out.ad ad ha; omega)
         exact Rd.kept s1 (Keep.far' FT) (fun ad ha e => by have := PS.out.ad ad ha; omega)
        ·exact ((OS.out.keep.then KPQ.out (fun i hi e => e.elim)).then K7.out (fun i hi e => by have := OVo.out _ e; omega)).then (Keep.far' FT) (fun i hi e => e)
        ·have := OS.out.cnt
         have h1 : ([o] : List OutD).length = 1 := rfl
         have := LONG.out
         rw [List.length_append, vz, List.length_drop]
         omega
       case measure =>
        have vz : vq = vr.drop (41 + 104 * j) := by rw [PS.out.vq, List.drop_drop]
        have h1 : rn4 = vr.length - (41 + 104 * j) := by rw [RN4.out, vz, List.length_drop]
        have h2 := RN2.out
        have h3 := RNL.out
        simp only [lenOf_slice]
        omega
      have u1 : decide (j < n2) = true := decide_eq_true hj
      have u2 : decide ((j : Int) < (n2 : Int)) = true := decide_eq_true (by omega)
      have HJ := hid hj
      clear hj
      have QNL := hid (show 104 ≤ rn4 by have := RN4.out; rw [PS.out.vq, List.length_drop, V0L.out] at this; have := HJ.out; have := LONG.out; have := RN3.out; have := RN2.out; omega)
      obtain ⟨rb3, ro3, rfl⟩ : ∃ b o, ra3 = some ⟨b, o, none⟩ := by
       obtain ⟨_, _, _, _, b, o, h1, _⟩ := PS.out.sl
       exact ⟨b, o, h1 (by rw [← RN4.out]; have := QNL.out; omega)⟩
      have RB3 := hid (PS.out.ad _ rfl)
      have SLq := hid (show Sl .u8 wq (some ⟨rb3, ro3, none⟩) rn4 rc3 vq from by have := PS.out.sl; rw [← RN4.out] at this; exact this)
      obtain ⟨o32, s32, q32⟩ := run_dropR (m := 32) (M := 32) rfl SLq.out (by have := QNL.out; omega)
      obtain ⟨o64, s64, q64⟩ := run_dropR (m := 64) (M := 64) rfl SLq.out (by have := QNL.out; omega)
      obtain ⟨o96, s96, q96⟩ := run_cutR (m := 96) (h := 100) (M := 96) (H := 100) rfl rfl SLq.out (by decide) (by have := QNL.out; omega)
      obtain ⟨o100, s100, q100⟩ := run_cutR (m := 100) (h := 104) (M := 100) (H := 104) rfl rfl SLq.out (by decide) (by have := QNL.out; omega)
      obtain ⟨o104, s104, q104⟩ := run_dropR (m := 104) (M := 104) rfl SLq.out (by have := QNL.out; omega)
      have S32 := hid s32
      have S64 := hid s64
      have S96 := hid s96
      have S100 := hid s100
      have S104 := hid s104
      obtain ⟨s4, hs4⟩ : ∃ s, s = beVal ((vq.drop 96).take 4) := ⟨_, rfl⟩
      obtain ⟨s5, hs5⟩ : ∃ s, s = beVal ((vq.drop 100).take 4) := ⟨_, rfl⟩
      obtain ⟨y1, hy1⟩ : ∃ y, y = vq.take 32 := ⟨_, rfl⟩
      obtain ⟨y2, hy2⟩ : ∃ y, y = (vq.drop 32).take 32 := ⟨_, rfl⟩
      obtain ⟨y3, hy3⟩ : ∃ y, y = (vq.drop 64).take 32 := ⟨_, rfl⟩
      obtain ⟨xs, hxs⟩ : ∃ xs, xs = (rdPath vq).cells := ⟨_, rfl⟩
      have S4 := hid (show s4 = beVal ((vq.drop 96).take (100 - 96)) ∧ (∀ d ∈ (vq.drop 96).take (100 - 96), d < 256) from ⟨hs4, fun d hd => PS.out.bd d (List.mem_of_mem_drop (List.mem_of_mem_take hd))⟩)
      have S5 := hid (show s5 = beVal ((vq.drop 100).take (104 - 100)) ∧ (∀ d ∈ (vq.drop 100).take (104 - 100), d < 256) from ⟨hs5, fun d hd => PS.out.bd d (List.mem_of_mem_drop (List.mem_of_mem_take hd))⟩)
      have Y1 := hid hy1
      have Y2 := hid hy2
      have Y3 := hid hy3
      have YL := hid (show y1.length = 32 ∧ y2.length = 32 ∧ y3.length = 32 from by
       have := RN4.out
       have := QNL.out
       refine ⟨?_, ?_, ?_⟩
       ·rw [hy1, List.length_take]; omega
       ·rw [hy2, List.length_take, List.length_drop]; omega
       ·rw [hy3, List.length_take, List.length_drop]; omega)
      have BX := hid (show Tryd.prog.built 101 [(0, .agg (nums .u8 y1).toArray), (1, .agg (nums .u8 y2).toArray), (2, .agg (nums .u8 y3).toArray), (3, .int .i64 (s4 : Int)), (4, .int .i64 (s5 : Int))] = some xs.toArray from by
       rw [brPth y1 y2 y3 s4 s5 YL.out.1 YL.out.2.1 YL.out.2.2, hxs, hs4, hs5, hy1, hy2, hy3]; rfl)
      have XOK := hid (show (rdPath vq).ok from by rw [← (pth_long (sh := false) (by have := RN4.out; have := QNL.out; omega)).2.2]; exact pthY_ok PS.out.bd)
      have XSE := hid hxs
      have XSL := hid (show xs.length = 98 by rw [hxs]; exact PathD.len XOK.out)
      have XS1 := hid (show ∀ u ∈ xs, u.oneCell' = true by rw [hxs]; exact PathD.one _)
      have PL := hid (show xs.toArray.size = 98 by rw [List.size_toArray, XSL.out])
      have hPi := hid (show (Tryd.prog.info? 101).map (·.size) = some 98 by kernel_rfl)
      have hPz := hid (show ((Tryd.prog.info? 101).bind (·.zero)).isSome = true by kernel_rfl)
      have r3 : IntKind.i64.wrap (s4 : Int) = (s4 : Int) := by (have h1 := XOK.out.wait); (have h2 : (s4 : Int) = (rdPath vq).wait := (by rw [hs4]; rfl)); rw [IntKind.wrap_i64]; unfold i64ok at h1; omega
      have r5 : IntKind.i64.wrap (s5 : Int) = (s5 : Int) := by (have h1 := XOK.out.till); (have h2 : (s5 : Int) = (rdPath vq).till := (by rw [hs5]; rfl)); rw [IntKind.wrap_i64]; unfold i64ok at h1; omega
      have CO1 := hid (show wq.cell? ⟨bk, 1, none⟩ = some vp from gen_cell (j := 1) (row_range HOX.out) rfl)
      have NO1 := hid (show vp.ownBlock ≠ some bk from fun e => by have := OVL.out _ e; have := LBK.out; omega)
      have NO3 := hid (show vp.ownBlock ≠ some rb3 from fun e => by have h1 := OVL.out _ e; have h2 := RB3.out; have h3 := L19.out; dsimp only at h2; omega)
      have OVP := hid (ownKB OVP.out (Below.refl _ _).drew)
      have HOX := hid (heap_keep HOX.out (Below.refl _ _).drew)
      obtain ⟨j1, hj1⟩ : ∃ j1, j1 = j + 1 := ⟨_, rfl⟩
      have r4 : IntKind.i64.wrap ((j : Int) + 1) = (j1 : Int) := by have := N2L.out; have := HJ.out; rw [IntKind.wrap_i64]; omega
      have J1 := hid hj1
      clear hs4 hs5 hy1 hy2 hy3 hxs hj1 s32 s64 s96 s100 s104
      go_upto_region 30 with (fail)
      clear u1 u2
      refine wp_region_X (l := 22) (S := fun b w' => Keep (fun i => i = bk ∨ vp.ownBlock = some i) wq w' ∧ (b = false → Keep (fun i => vp.ownBlock = some i) wq w')) (by kernel_rfl) (⟨Keep.of (Below.refl _ _).drew, fun _ => Keep.of (Below.refl _ _).drew⟩) (fun hHeld => ?_)
      try simp only [List.size_toArray, List.length_cons, List.length_nil, Nat.reduceAdd, Array.replicate_succ, Array.replicate_zero, List.push_toArray, List.nil_append, List.cons_append]
      refine tkE (i := 0) (oi := ⟨some 127, .fieldAddr 99 (.tmp 11) 1, 0, "ref.go:186", #[], none⟩) (v := ?v1001) (yi ?y1001) hHeld ?_
      case y1001 => (intro w _; go_simp; (try with_reducible rfl))
      (try simp only [Act.put, s0, s1, s2])
      refine tkE (i := 1) (oi := ⟨some 128, .load 97 (.tmp 127), 97, "ref.go:186", #[⟨0, .data⟩], none⟩) (v := vp) (Or.inl ⟨by rfl, fun w h => by have c9 := Keep.cell (h.2 rfl) CO1.out NO1.out; go_simp⟩) hHeld ?_
      (try simp only [Act.put, s0, s1, s2])
      refine tkE (i := 2) (oi := ⟨some 129, .move (.tmp 7), 22, "ref.go:186", #[], none⟩) (v := ?v1002) (yi ?y1002) hHeld ?_
      case y1002 => (intro w _; go_simp; (try with_reducible rfl))
      (try simp only [Act.put, s0, s1, s2])
      refine tkE (i := 4) (oi := ⟨some 131, .move (.tmp 7), 22, "ref.go:186", #[], none⟩) (v := ?v1003) (yi ?y1003) hHeld ?_
      case y1003 => (intro w _; go_simp; (try with_reducible rfl))
      (try simp only [Act.put, s0, s1, s2])
      refine tkE (i := 5) (oi := ⟨some 132, .slice 22 (.tmp 131) (some (.const (.int .i64 32))) none none, 22, "ref.go:186", #[⟨4, .data⟩], none⟩) (v := ?v1004) (yi ?y1004) hHeld ?_
      case y1004 => (intro w _; go_simp; (try with_reducible rfl))
      (try simp only [Act.put, s0, s1, s2])
      refine tkE (i := 7) (oi := ⟨some 134, .move (.tmp 7), 22, "ref.go:186", #[], none⟩) (v := ?v1005) (yi ?y1005) hHeld ?_
      case y1005 => (intro w _; go_simp; (try with_reducible rfl))
      (try simp only [Act.put, s0, s1, s2])
      refine tkE (i := 8) (oi := ⟨some 135, .slice 22 (.tmp 134) (some (.const (.int .i64 64))) none none, 22, "ref.go:186", #[⟨7, .data⟩], none⟩) (v := ?v1006) (yi ?y1006) hHeld ?_
      case y1006 => (intro w _; go_simp; (try with_reducible rfl))
      (try simp only [Act.put, s0, s1, s2])
      refine tkE (i := 10) (oi := ⟨some 137, .move (.tmp 7), 22, "ref.go:186", #[], none⟩) (v := ?v1007) (yi ?y1007) hHeld ?_
      case y1007 => (intro w _; go_simp; (try with_reducible rfl))
      (try simp only [Act.put, s0, s1, s2])
      refine tkE (i := 11) (oi := ⟨some 138, .slice 22 (.tmp 137) (some (.const (.int .i64 96))) (some (.const (.int .i64 100))) none, 22, "ref.go:186", #[⟨10, .data⟩], none⟩) (v := ?v1008) (yi ?y1008) hHeld ?_
      case y1008 => (intro w _; go_simp; (try with_reducible rfl))
      (try simp only [Act.put, s0, s1, s2])
      refine tkE (i := 14) (oi := ⟨some 141, .move (.tmp 7), 22, "ref.go:186", #[], none⟩) (v := ?v1009) (yi ?y1009) hHeld ?_
      case y1009 => (intro w _; go_simp; (try with_reducible rfl))
      (try simp only [Act.put, s0, s1, s2])
      refine tkE (i := 15) (oi := ⟨some 142, .slice 22 (.tmp 141) (some (.const (.int .i64 100))) (some (.const (.int .i64 104))) none, 22, "ref.go:186", #[⟨14, .data⟩], none⟩) (v := ?v1010) (yi ?y1010) hHeld ?_
      case y1010 => (intro w _; go_simp; (try with_reducible rfl))
      (try simp only [Act.put, s0, s1, s2])
      refine wpAnyX_ready (rs := [3]) (by kernel_rfl) (by simp) ?_
      refine AllReadyX.cons (o := ⟨some 130, .call ⟨.value (.func 29), #[.tmp 129], #[22]⟩, 48, "ref.go:186", #[⟨2, .data⟩], none⟩) rfl (b := false) (by kernel_rfl) (fun K hK => ?_) ?_
      go_simp; refine (read32_walk _ _ _ _ (by have := QNL.out; omega) _ (Rd.kept SLq.out (hHeld.2 rfl) (fun ad ha e => by cases ha; exact NO3.out e))).mono ?_; rintro e wt3 ⟨rfl, bt3⟩; rw [← Y1.out, show hv y1 = .agg (nums .u8 y1).toArray from rfl]; have KB := hid bt3; have OVP := hid (ownKB OVP.out bt3); have HOX := hid (heap_keep HOX.out bt3); clear bt3
      refine hK.out _ _ (⟨hHeld.1.trans (Keep.of KB.out), fun e => (hHeld.2 e).trans (Keep.of KB.out)⟩) (fun hHeld => ?_)
      clear hK K
      (try simp only [s0, s1, s2])
      refine wpAnyX_ready (rs := [6]) (by kernel_rfl) (by simp) ?_
      refine AllReadyX.cons (o := ⟨some 133, .call ⟨.value (.func 29), #[.tmp 132], #[22]⟩, 48, "ref.go:186", #[⟨5, .data⟩, ⟨3, .chain⟩], none⟩) rfl (b := false) (by kernel_rfl) (fun K hK => ?_) ?_
      go_simp; refine (read32_walk _ _ _ _ (by have := QNL.out; omega) _ (Rd.kept S32.out (hHeld.2 rfl) (fun ad ha e => by cases ha; exact NO3.out e))).mono ?_; rintro e wt6 ⟨rfl, bt6⟩; rw [← Y2.out, show hv y2 = .agg (nums .u8 y2).toArray from rfl]; have KB := hid bt6; have OVP := hid (ownKB OVP.out bt6); have HOX := hid (heap_keep HOX.out bt6); clear bt6
      refine hK.out _ _ (⟨hHeld.1.trans (Keep.of KB.out), fun e => (hHeld.2 e).trans (Keep.of KB.out)⟩) (fun hHeld => ?_)
      clear hK K
      (try simp only [s0, s1, s2])
      refine wpAnyX_ready (rs := [9]) (by kernel_rfl) (by simp) ?_
      refine AllReadyX.cons (o := ⟨some 136, .call ⟨.value (.func 29), #[.tmp 135], #[22]⟩, 48, "ref.go:186", #[⟨8, .data⟩, ⟨6, .chain⟩], none⟩) rfl (b := false) (by kernel_rfl) (fun K hK => ?_) ?_
      go_simp; refine (read32_walk _ _ _ _ (by have := QNL.out; omega) _ (Rd.kept S64.out (hHeld.2 rfl) (fun ad ha e => by cases ha; exact NO3.out e))).mono ?_; rintro e wt9 ⟨rfl, bt9⟩; rw [← Y3.out, show hv y3 = .agg (nums .u8 y3).toArray from rfl]; have KB := hid bt9; have OVP := hid (ownKB OVP.out bt9); have HOX := hid (heap_keep HOX.out bt9); clear bt9
      refine hK.out _ _ (⟨hHeld.1.trans (Keep.of KB.out), fun e => (hHeld.2 e).trans (Keep.of KB.out)⟩) (fun hHeld => ?_)
      clear hK K
      (try simp only [s0, s1, s2])
      refine wpAnyX_ready (rs := [12]) (by kernel_rfl) (by simp) ?_
      refine AllReadyX.cons (o := ⟨some 139, .call ⟨.value (.func 30), #[.tmp 138], #[22]⟩, 54, "ref.go:186", #[⟨11, .data⟩, ⟨9, .chain⟩], none⟩) rfl (b := false) (by kernel_rfl) (fun K hK => ?_) ?_
      go_simp; refine (rnumber_walk _ _ _ _ (by decide) (S4.out.2) _ (Rd.kept S96.out (hHeld.2 rfl) (fun ad ha e => by cases ha; exact NO3.out e))).mono ?_; rintro e wt12 ⟨rfl, rfl⟩; rw [← S4.out.1]
      refine hK.out _ _ (hHeld) (fun hHeld => ?_)
      clear hK K
      (try simp only [s0, s1, s2])
      refine tkE (i := 13) (oi := ⟨some 140, .convert 54 3 (.tmp 139), 3, "ref.go:186", #[⟨12, .data⟩], none⟩) (v := ?v1011) (yi ?y1011) hHeld ?_
      case y1011 => (intro w _; go_simp; (try with_reducible rfl))
      (try simp only [Act.put, s0, s1, s2])
      refine wpAnyX_ready (rs := [16]) (by kernel_rfl) (by simp) ?_
      refine AllReadyX.cons (o := ⟨some 143, .call ⟨.value (.func 30), #[.tmp 142], #[22]⟩, 54, "ref.go:186", #[⟨15, .data⟩, ⟨12, .chain⟩], none⟩) rfl (b := false) (by kernel_rfl) (fun K hK => ?_) ?_
      go_simp; refine (rnumber_walk _ _ _ _ (by decide) (S5.out.2) _ (Rd.kept S100.out (hHeld.2 rfl) (fun ad ha e => by cases ha; exact NO3.out e))).mono ?_; rintro e wt16 ⟨rfl, rfl⟩; rw [← S5.out.1]
      refine hK.out _ _ (hHeld) (fun hHeld => ?_)
      clear hK K
      (try simp only [s0, s1, s2])
      refine tkE (i := 17) (oi := ⟨some 144, .convert 54 3 (.tmp 143), 3, "ref.go:186", #[⟨16, .data⟩], none⟩) (v := ?v1012) (yi ?y1012) hHeld ?_
      case y1012 => (intro w _; go_simp; (try with_reducible rfl))
      (try simp only [Act.put, s0, s1, s2])
      refine tkE (i := 18) (oi := ⟨some 145, .build 101 #[(0, .tmp 130), (1, .tmp 133), (2, .tmp 136), (3, .tmp 140), (4, .tmp 144)], 101, "ref.go:186", #[⟨3, .data⟩, ⟨6, .data⟩, ⟨9, .data⟩, ⟨13, .data⟩, ⟨17, .data⟩], none⟩) (v := (.agg xs.toArray)) (Or.inl ⟨by rfl, fun w _ => run_build5 rfl rfl rfl rfl rfl rfl BX.out⟩) hHeld ?_
      (try simp only [Act.put, s0, s1, s2])
      refine wpAnyX_ready (rs := [19]) (by kernel_rfl) (by simp) ?_
      refine AllReadyX.cons (o := ⟨some 146, .buildSlice 97 1 #[(0, .tmp 145)], 97, "ref.go:186", #[⟨18, .data⟩], none⟩) rfl (b := false) (by kernel_rfl) (fun K hK => ?_) ?_
      rw [if_pos (by rfl)]; refine wp_lit1 _ _ _ rfl rfl Tryd.underlying97 hPi.out hPz.out PL.out (by decide) (by decide) ?_; refine newZ ?_; intro wl HL KB; have OVP := hid (ownKB OVP.out KB.out); have HOX := hid (heap_keep HOX.out KB.out); have LWL := hid (hHeld.1.size)
      refine hK.out _ _ (⟨hHeld.1.trans (Keep.of KB.out), fun e => (hHeld.2 e).trans (Keep.of KB.out)⟩) (fun hHeld => ?_)
      clear hK K
      (try simp only [s0, s1, s2])
      refine wpAnyX_ready (rs := [20]) (by kernel_rfl) (by simp) ?_
      refine AllReadyX.cons (o := ⟨some 147, .call ⟨.builtin .append, #[.tmp 128, .tmp 146], #[97, 97]⟩, 97, "ref.go:186", #[⟨1, .data⟩, ⟨19, .data⟩, ⟨16, .chain⟩], none⟩) rfl (b := false) (by kernel_rfl) (fun K hK => ?_) ?_
      rw [if_pos (by rfl)]; refine wp_pushK _ _ 97 rfl tyRPath w9.heap.size OVP.out rfl rfl HL.out XSL.out XS1.out (by have := HJ.out; have := N2L.out; omega) (by decide) (by have := hHeld.1.size; have := QL.out; omega) ?_; intro v7 w7 own7 k7 nb7; obtain ⟨pa7, pc7, rfl, _⟩ := Rd.of_owns own7; have O7 := hid own7; have K7 := hid k7; have NB7 := hid nb7; have HOX := hid (K7.out.heap HOX.out NO1.out); clear own7 k7 nb7
      refine hK.out _ _ (⟨hHeld.1.trans (K7.out.mono (fun i h => Or.inr h)), fun e => (hHeld.2 e).trans K7.out⟩) (fun hHeld => ?_)
      clear hK K
      (try simp only [s0, s1, s2])
      refine tkE (i := 21) (oi := ⟨some 148, .fieldAddr 99 (.tmp 11) 1, 0, "ref.go:186", #[⟨0, .phase⟩, ⟨1, .phase⟩, ⟨2, .phase⟩, ⟨3, .phase⟩, ⟨4, .phase⟩, ⟨5, .phase⟩, ⟨6, .phase⟩, ⟨7, .phase⟩, ⟨8, .phase⟩, ⟨9, .phase⟩, ⟨10, .phase⟩, ⟨11, .phase⟩, ⟨12, .phase⟩, ⟨13, .phase⟩, ⟨14, .phase⟩, ⟨15, .phase⟩, ⟨16, .phase⟩, ⟨17, .phase⟩, ⟨18, .phase⟩, ⟨19, .phase⟩, ⟨20, .phase⟩], none⟩) (v := ?v1013) (yi ?y1013) hHeld ?_
      case y1013 => (intro w _; go_simp; (try with_reducible rfl))
      (try simp only [Act.put, s0, s1, s2])
      refine wpAnyX_ready (rs := [22]) (by kernel_rfl) (by simp) ?_
      refine AllReadyX.cons (o := ⟨none, .store 97 (.tmp 148) (.tmp 147), 0, "ref.go:186", #[⟨21, .data⟩, ⟨20, .data⟩, ⟨20, .chain⟩, ⟨0, .phase⟩, ⟨1, .phase⟩, ⟨2, .phase⟩, ⟨3, .phase⟩, ⟨4, .phase⟩, ⟨5, .phase⟩, ⟨6, .phase⟩, ⟨7, .phase⟩, ⟨8, .phase⟩, ⟨9, .phase⟩, ⟨10, .phase⟩, ⟨11, .phase⟩, ⟨12, .phase⟩, ⟨13, .phase⟩, ⟨14, .phase⟩, ⟨15, .phase⟩, ⟨16, .phase⟩, ⟨17, .phase⟩, ⟨18, .phase⟩, ⟨19, .phase⟩, ⟨20, .phase⟩], none⟩) rfl (b := true) (by kernel_rfl) (fun K hK => ?_) ?_
      have c9 := gen_cell (j := 1) (row_range HOX.out) rfl; have z9 : w7.frozen? ⟨bk, 1, none⟩ = false := frozen_of_row _ _ _ _ _ HOX.out; go_simp; refine setW HOX.out ?_; intro wz HZ FZ; clear c9 z9
      refine hK.out _ _ (⟨hHeld.1.trans (Keep.far FZ.out (Or.inl rfl)), nofun⟩) (fun hHeld => ?_)
      clear hK K
      (try simp only [s0, s1, s2])
      refine wpAnyX_done (by kernel_rfl) ?_ _
      rotate_left
      exact AllReadyX.nil
      exact AllReadyX.nil
      exact AllReadyX.nil
      exact AllReadyX.nil
      exact AllReadyX.nil
      exact AllReadyX.nil
      exact AllReadyX.nil
      exact AllReadyX.nil
      have KZ := hid hHeld.1
      clear hHeld
      go_wp2_with (fail)
      go_roundw
      case rel =>
       have hlq : (vq.drop 104).length = rn4 - 104 := by rw [List.length_drop, RN4.out]
       have j1e := J1.out
       have hj := HJ.out
       have lbk := LBK.out
       have ql := QL.out
       have ps : pathsD j1 (vr.drop 41) = pathsD j (vr.drop 41) ++ [rdPath vq] := by rw [j1e, pathsD_snoc, PS.out.vq]
       refine ⟨j1, vq.drop 104, some ⟨rb3, o104, none⟩, rc3 - 104, _, rfl, by rw [hlq], by omega, by rw [PS.out.vq, List.drop_drop, j1e]; rfl, fun d hd => PS.out.bd d (List.mem_of_mem_drop hd), ?_, fun ad ha => by cases ha; exact RB3.out, ?_, HZ.out, ?_, ?_⟩
       ·rw [hlq]; exact Rd.kept S104.out KZ.out (fun ad ha e => by cases ha; rcases e with e | e; exact absurd e (by have h2 := RB3.out; have h3 := L19.out; have h4 := BK1.out; have h5 := LL.out; have h6 := LP.out; dsimp only at h2 ⊢; omega); exact NO3.out e)
       ·exact PS.out.keep.then KZ.out (fun i hi e => by rcases e with e | e; exact e; (have := OVL.out _ e; omega))
       ·rw [ps, List.flatMap_append, j1e]
        have o := (Keep.far' FZ.out).own O7.out (fun g' hg' e => by
         rcases NB7.out with h | h
         ·rw [h] at hg'; have := OVL.out _ hg'; omega
         ·have h9 := LWL.out; have h8 := KB.out.size; rw [h] at hg'; cases hg'; omega)
        rw [show [rdPath vq].flatMap PathD.cells = xs by rw [XSE.out]; simp]
        exact o
       ·intro p hp
        rw [ps] at hp
        rcases List.mem_append.1 hp with hp | hp
        ·exact PS.out.ok p hp
        ·rw [List.mem_singleton.1 hp]; exact XOK.out
      case measure => simp [intOf]; have := J1.out; have := HJ.out; omega
    have MID := hid MID
    clear aK
    refine wp_region_held_drew (S := fun w' => Below wp.heap.size wp w') (by kernel_rfl) ((Below.refl _ _).drew) (fun hHeld => ?_)
    try simp only [List.size_toArray, List.length_cons, List.length_nil, Nat.reduceAdd, Array.replicate_succ, Array.replicate_zero, List.push_toArray, List.nil_append, List.cons_append]
    refine tkH (i := 0) (oi := ⟨some 103, .move (.tmp 7), 22, "ref.go:179", #[], none⟩) (v := ?v2001) (yi ?y2001) hHeld ?_
    case y2001 => (intro w _; go_simp; (try with_reducible rfl))
    (try simp only [Act.put, s0, s1, s2])
    refine tkH (i := 1) (oi := ⟨some 104, .slice 22 (.tmp 103) none (some (.const (.int .i64 8))) none, 22, "ref.go:179", #[⟨0, .data⟩], none⟩) (v := ?v2002) (yi ?y2002) hHeld ?_
    case y2002 => (intro w _; go_simp; (try with_reducible rfl))
    (try simp only [Act.put, s0, s1, s2])
    refine tkH (i := 3) (oi := ⟨some 106, .move (.tmp 7), 22, "ref.go:179", #[], none⟩) (v := ?v2003) (yi ?y2003) hHeld ?_
    case y2003 => (intro w _; go_simp; (try with_reducible rfl))
    (try simp only [Act.put, s0, s1, s2])
    refine tkH (i := 4) (oi := ⟨some 107, .slice 22 (.tmp 106) (some (.const (.int .i64 8))) none none, 22, "ref.go:179", #[⟨3, .data⟩], none⟩) (v := ?v2004) (yi ?y2004) hHeld ?_
    case y2004 => (intro w _; go_simp; (try with_reducible rfl))
    (try simp only [Act.put, s0, s1, s2])
    refine wpAnyH_ready (rs := [2, 7]) (by kernel_rfl) (by simp) ?_
    refine AllReadyH.cons (o := ⟨some 105, .call ⟨.value (.func 30), #[.tmp 104], #[22]⟩, 54, "ref.go:179", #[⟨1, .data⟩], none⟩) rfl (fun K hK => ?_) ?_
    go_simp; refine (rnumber_walk _ 8 _ _ (by decide) V8.out _ (S8H.out.below hHeld)).mono ?_; rintro e wt2 ⟨rfl, rfl⟩; rw [← CN.out]
    refine hK.out _ _ (hHeld) (fun hHeld => ?_)
    clear hK K
    (try simp only [s0, s1, s2])
    refine wpAnyH_ready (rs := [5, 7]) (by kernel_rfl) (by simp) ?_
    refine AllReadyH.cons (o := ⟨some 108, .call ⟨.value (.func 29), #[.tmp 107], #[22]⟩, 48, "ref.go:179", #[⟨4, .data⟩, ⟨2, .chain⟩], none⟩) rfl (fun K hK => ?_) ?_
    go_simp; refine (read32_walk _ _ _ _ (by have := RNL.out; omega) _ (S8.out.below hHeld)).mono ?_; rintro e wt5 ⟨rfl, bt5⟩; rw [← AN.out, show hv an = .agg (nums .u8 an).toArray from rfl]; have KB := hid bt5; clear bt5
    refine hK.out _ _ (hHeld.trans (KB.out.mono hHeld.size)) (fun hHeld => ?_)
    clear hK K
    (try simp only [s0, s1, s2])
    refine tkH (i := 6) (oi := ⟨some 109, .build 99 #[(0, .tmp 105), (2, .tmp 108)], 99, "ref.go:179", #[⟨2, .data⟩, ⟨5, .data⟩], none⟩) (v := (.agg oc0.toArray)) (Or.inl ⟨by rfl, fun w _ => run_b2 rfl rfl rfl BO.out⟩) hHeld ?_
    (try simp only [Act.put, s0, s1, s2])
    refine wpAnyH_ready (rs := [7]) (by kernel_rfl) (by simp) ?_
    refine AllReadyH.cons (o := ⟨some 11, .alloc 99, 0, "ref.go:179", #[], none⟩) rfl (fun K hK => ?_) ?_
    go_simp; have HBK := hid (hHeld.size); (first | refine newZ ?_ | refine newZd ?_); intro wz HW BW; obtain ⟨bk, hbk⟩ := nameB HW.out; have BKN := hid (show wp.heap.size ≤ bk from by rw [← hbk]; exact HBK.out); simp only [hbk] at HW ⊢; clear hbk
    refine hK.out _ _ (by first | exact hHeld.trans (BW.out.mono hHeld.size) | exact BW.out) (fun hHeld => ?_)
    clear hK K
    (try simp only [s0, s1, s2])
    refine wpAnyH_ready (rs := [8]) (by kernel_rfl) (by simp) ?_
    refine AllReadyH.cons (o := ⟨none, .store 99 (.tmp 11) (.tmp 109), 0, "ref.go:179", #[⟨7, .data⟩, ⟨6, .data⟩, ⟨5, .chain⟩, ⟨0, .phase⟩, ⟨1, .phase⟩, ⟨2, .phase⟩, ⟨3, .phase⟩, ⟨4, .phase⟩, ⟨5, .phase⟩, ⟨6, .phase⟩, ⟨7, .phase⟩], none⟩) rfl (fun K hK => ?_) ?_
    rw [if_pos (by rfl)]; refine wp_store_rowZ _ _ _ rfl bk oc0.toArray rfl rfl _ _ (by first | exact HW.out | exact heap_keep HW.out KB.out) hiOa.out hoO.out h1O.out ?_; intro wy HXR FX
    refine hK.out _ _ (hHeld.trans (FX.out.below BKN.out hHeld.size)) (fun hHeld => ?_)
    clear hK K
    (try simp only [s0, s1, s2])
    refine wpAnyH_done (by kernel_rfl) ?_ _
    rotate_left
    exact AllReadyH.nil
    exact AllReadyH.nil
    refine AllReadyH.cons (o := ⟨some 11, .alloc 99, 0, "ref.go:179", #[], none⟩) rfl (fun K hK => ?_) ?_
    go_simp; have HBK := hid (hHeld.size); (first | refine newZ ?_ | refine newZd ?_); intro wz HW BW; obtain ⟨bk, hbk⟩ := nameB HW.out; have BKN := hid (show wp.heap.size ≤ bk from by rw [← hbk]; exact HBK.out); simp only [hbk] at HW ⊢; clear hbk
    refine hK.out _ _ (by first | exact hHeld.trans (BW.out.mono hHeld.size) | exact BW.out) (fun hHeld => ?_)
    clear hK K
    (try simp only [s0, s1, s2])
    refine wpAnyH_ready (rs := [5]) (by kernel_rfl) (by simp) ?_
    refine AllReadyH.cons (o := ⟨some 108, .call ⟨.value (.func 29), #[.tmp 107], #[22]⟩, 48, "ref.go:179", #[⟨4, .data⟩, ⟨2, .chain⟩], none⟩) rfl (fun K hK => ?_) ?_
    go_simp; refine (read32_walk _ _ _ _ (by have := RNL.out; omega) _ (S8.out.below hHeld)).mono ?_; rintro e wt5 ⟨rfl, bt5⟩; rw [← AN.out, show hv an = .agg (nums .u8 an).toArray from rfl]; have KB := hid bt5; clear bt5
    refine hK.out _ _ (hHeld.trans (KB.out.mono hHeld.size)) (fun hHeld => ?_)
    clear hK K
    (try simp only [s0, s1, s2])
    refine tkH (i := 6) (oi := ⟨some 109, .build 99 #[(0, .tmp 105), (2, .tmp 108)], 99, "ref.go:179", #[⟨2, .data⟩, ⟨5, .data⟩], none⟩) (v := (.agg oc0.toArray)) (Or.inl ⟨by rfl, fun w _ => run_b2 rfl rfl rfl BO.out⟩) hHeld ?_
    (try simp only [Act.put, s0, s1, s2])
    refine wpAnyH_ready (rs := [8]) (by kernel_rfl) (by simp) ?_
    refine AllReadyH.cons (o := ⟨none, .store 99 (.tmp 11) (.tmp 109), 0, "ref.go:179", #[⟨7, .data⟩, ⟨6, .data⟩, ⟨5, .chain⟩, ⟨0, .phase⟩, ⟨1, .phase⟩, ⟨2, .phase⟩, ⟨3, .phase⟩, ⟨4, .phase⟩, ⟨5, .phase⟩, ⟨6, .phase⟩, ⟨7, .phase⟩], none⟩) rfl (fun K hK => ?_) ?_
    rw [if_pos (by rfl)]; refine wp_store_rowZ _ _ _ rfl bk oc0.toArray rfl rfl _ _ (by first | exact HW.out | exact heap_keep HW.out KB.out) hiOa.out hoO.out h1O.out ?_; intro wy HXR FX
    refine hK.out _ _ (hHeld.trans (FX.out.below BKN.out hHeld.size)) (fun hHeld => ?_)
    clear hK K
    (try simp only [s0, s1, s2])
    refine wpAnyH_done (by kernel_rfl) ?_ _
    rotate_left
    exact AllReadyH.nil
    exact AllReadyH.nil
    exact AllReadyH.nil
    refine AllReadyH.cons (o := ⟨some 11, .alloc 99, 0, "ref.go:179", #[], none⟩) rfl (fun K hK => ?_) ?_
    go_simp; have HBK := hid (hHeld.size); (first | refine newZ ?_ | refine newZd ?_); intro wz HW BW; obtain ⟨bk, hbk⟩ := nameB HW.out; have BKN := hid (show wp.heap.size ≤ bk from by rw [← hbk]; exact HBK.out); simp only [hbk] at HW ⊢; clear hbk
    refine hK.out _ _ (by first | exact hHeld.trans (BW.out.mono hHeld.size) | exact BW.out) (fun hHeld => ?_)
    clear hK K
    (try simp only [s0, s1, s2])
    refine wpAnyH_ready (rs := [2]) (by kernel_rfl) (by simp) ?_
    refine AllReadyH.cons (o := ⟨some 105, .call ⟨.value (.func 30), #[.tmp 104], #[22]⟩, 54, "ref.go:179", #[⟨1, .data⟩], none⟩) rfl (fun K hK => ?_) ?_
    go_simp; refine (rnumber_walk _ 8 _ _ (by decide) V8.out _ (S8H.out.below hHeld)).mono ?_; rintro e wt2 ⟨rfl, rfl⟩; rw [← CN.out]
    refine hK.out _ _ (hHeld) (fun hHeld => ?_)
    clear hK K
    (try simp only [s0, s1, s2])
    refine wpAnyH_ready (rs := [5]) (by kernel_rfl) (by simp) ?_
    refine AllReadyH.cons (o := ⟨some 108, .call ⟨.value (.func 29), #[.tmp 107], #[22]⟩, 48, "ref.go:179", #[⟨4, .data⟩, ⟨2, .chain⟩], none⟩) rfl (fun K hK => ?_) ?_
    go_simp; refine (read32_walk _ _ _ _ (by have := RNL.out; omega) _ (S8.out.below hHeld)).mono ?_; rintro e wt5 ⟨rfl, bt5⟩; rw [← AN.out, show hv an = .agg (nums .u8 an).toArray from rfl]; have KB := hid bt5; clear bt5
    refine hK.out _ _ (hHeld.trans (KB.out.mono hHeld.size)) (fun hHeld => ?_)
    clear hK K
    (try simp only [s0, s1, s2])
    refine tkH (i := 6) (oi := ⟨some 109, .build 99 #[(0, .tmp 105), (2, .tmp 108)], 99, "ref.go:179", #[⟨2, .data⟩, ⟨5, .data⟩], none⟩) (v := (.agg oc0.toArray)) (Or.inl ⟨by rfl, fun w _ => run_b2 rfl rfl rfl BO.out⟩) hHeld ?_
    (try simp only [Act.put, s0, s1, s2])
    refine wpAnyH_ready (rs := [8]) (by kernel_rfl) (by simp) ?_
    refine AllReadyH.cons (o := ⟨none, .store 99 (.tmp 11) (.tmp 109), 0, "ref.go:179", #[⟨7, .data⟩, ⟨6, .data⟩, ⟨5, .chain⟩, ⟨0, .phase⟩, ⟨1, .phase⟩, ⟨2, .phase⟩, ⟨3, .phase⟩, ⟨4, .phase⟩, ⟨5, .phase⟩, ⟨6, .phase⟩, ⟨7, .phase⟩], none⟩) rfl (fun K hK => ?_) ?_
    rw [if_pos (by rfl)]; refine wp_store_rowZ _ _ _ rfl bk oc0.toArray rfl rfl _ _ (by first | exact HW.out | exact heap_keep HW.out KB.out) hiOa.out hoO.out h1O.out ?_; intro wy HXR FX
    refine hK.out _ _ (hHeld.trans (FX.out.below BKN.out hHeld.size)) (fun hHeld => ?_)
    clear hK K
    (try simp only [s0, s1, s2])
    refine wpAnyH_done (by kernel_rfl) ?_ _
    rotate_left
    exact AllReadyH.nil
    exact AllReadyH.nil
    exact AllReadyH.nil
    exact AllReadyH.nil
    all_goals exact MID.out bk _ _ _ _ _ _ _ wy BKN.out HXR.out hHeld
  have u1 : decide (0 < (rn : Int)) = true := decide_eq_true (by omega)
  have u2 : decide (0 < rn) = true := decide_eq_true (by omega)
  obtain ⟨rb, ro, rfl⟩ : ∃ b o, ra = some ⟨b, o, none⟩ := by
   obtain ⟨_, _, _, _, b, o, h1, _⟩ := IS.out.sl
   exact ⟨b, o, h1 (by rw [← RN.out]; exact hv)⟩
  have RBL := hid (IS.out.ad _ rfl)
  have SL := hid (show Sl .u8 wo (some ⟨rb, ro, none⟩) rn rc vr from by have := IS.out.sl; rw [← RN.out] at this; exact this)
  have VNE := hid (show vr ≠ [] from by rintro rfl; have := RN.out; simp at this; omega)
  clear hv
  by_cases h36 : rn < 36
  case pos =>
   have u3 : decide ((rn : Int) < 36) = true := decide_eq_true (by omega)
   have u4 : decide (rn < 36) = true := decide_eq_true h36
   have E := hid (show decT bs = (([], []), 20) from by
    have e0 : (insR x.v).2 = 20 := by rw [IS.out.eq]; exact joinI_bad (by rw [insR_short VNE.out (by rw [← RN.out]; exact h36)]) (by decide)
    rw [DT.out, if_pos (by rw [show (insR x.pr.2).2 = 20 from e0]; decide), show (insR x.pr.2).2 = 20 from e0])
   clear h36
   go_upto_region 10 with (fail)
   go_wp2_with (first | with_reducible refine wpList_mk0 BZ.out ?_ | with_reducible refine wpList_store_row rfl _ _ _ rfl w.heap.size zTx rfl rfl _ _ HTo.out hiZ.out rfl h1Z.out ?_)
   refine bodyPost_ret (results_cell_tmp rfl _ _ w.heap.size _ zTx _ _ _ rfl rfl (setRow_heap _ _ _ _ _ _ HTo.out) Tryd.underlying35 rfl hiZ.out) rfl ?_
   exact CDecR.bad E.out rfl (below_setRow BWo.out (Nat.le_refl _) _)
  have u3 : decide ((rn : Int) < 36) = false := decide_eq_false (by omega)
  have u4 : decide (rn < 36) = false := decide_eq_false h36
  have V36 := hid (show ¬ vr.length < 36 by rw [← RN.out]; exact h36)
  obtain ⟨s36, r36⟩ := run_headR (h := 36) (H := 36) rfl SL.out (by omega)
  have RG := hid (rget_walk (some ⟨rb, ro, none⟩) 36 rc (vr.take 36) (fun d hd => IS.out.bd d (List.mem_of_mem_take hd)) wo s36)
  clear s36
  go_upto_region 11 with (fail)
  clear u1 u2 u3 u4 h36
  go_wp2_with (fail)
  refine RG.out.mono ?_
  rintro e w5 ⟨rfl, b5⟩
  obtain ⟨tx, htx⟩ : ∃ tx, tx = (getP (vr.take 36)).1 := ⟨_, rfl⟩
  obtain ⟨po, hpo⟩ : ∃ po, po = (getP (vr.take 36)).2.1 := ⟨_, rfl⟩
  obtain ⟨pk, hpk⟩ : ∃ pk, pk = (getP (vr.take 36)).2.2 := ⟨_, rfl⟩
  rw [← htx, ← hpo, ← hpk]
  have GPE := hid (And.intro htx (And.intro hpo hpk))
  have GPK := hid (show tx.length = 32 ∧ (∀ d ∈ tx, d < 256) ∧ po < 256 from by rw [htx, hpo]; exact getP_fine (fun d hd => IS.out.bd d (List.mem_of_mem_take hd)))
  have hiTl := hid (show (Tryd.prog.info? 48).map (·.size) = some (nums .u8 tx).length from by rw [nums_length, GPK.out.1]; kernel_rfl)
  have hiTa := hid (show (Tryd.prog.info? 48).map (·.size) = some (nums .u8 tx).toArray.size from by rw [List.size_toArray]; exact hiTl.out)
  have hoT := hid (show 32 = (nums .u8 tx).toArray.size by rw [List.size_toArray, nums_length, GPK.out.1])
  have h1T := hid (show ((nums .u8 tx).toArray.all fun x => x.oneCell') = true from all_oneCell_toArray (nums_oneCell .u8 tx))
  have B5 := hid b5
  clear b5 RG htx hpo hpk r36
  go_upto_region 12 with (refine wpList_store_row rfl _ _ _ rfl w5.heap.size (nums .u8 tx).toArray rfl rfl _ _ (heap_alloc_new _ _) hiTa.out hoT.out h1T.out ?_; refine laidW (F := fun w6 => wpList _ _ _ _ _ w6) ?_; intro w6 h6 b6)
  have B6o := hid (B5.out.trans (b6.out.mono B5.out.size))
  have RP := hid (row_range h6.out)
  have T6r := hid (heap_keep IS.out.row B6o.out)
  have HT6 := hid (heap_keep HTo.out B6o.out)
  have BW6 := hid (BWo.out.trans (B6o.out.mono BWo.out.size))
  have OW6 := hid (ownKB IS.out.own B6o.out)
  have SL6 := hid (SL.out.below B6o.out)
  have W6 := hid (show wo.heap.size ≤ w5.heap.size ∧ w5.heap.size < w6.heap.size from ⟨B5.out.size, (Array.getElem?_eq_some_iff.1 h6.out).1⟩)
  clear h6 b6 B5
  by_cases hpk : pk = 0
  case neg =>
   have u3 : ((pk : Int) != 0) = true := by rw [bne_iff_ne]; omega
   have E := hid (show decT bs = (([], []), pk) from by
    have e0 : (insR x.v).2 = pk := by rw [IS.out.eq]; exact joinI_bad (by rw [insR_pt V36.out (by rw [← GPE.out.2.2]; exact hpk), GPE.out.2.2]) hpk
    rw [DT.out, if_pos (by rw [show (insR x.pr.2).2 = pk from e0]; exact hpk), show (insR x.pr.2).2 = pk from e0])
   clear hpk
   go_upto_region 13 with (fail)
   go_wp2_with (first | with_reducible refine wpList_mk0 BZ.out ?_ | with_reducible refine wpList_store_row rfl _ _ _ rfl w.heap.size zTx rfl rfl _ _ HT6.out hiZ.out rfl h1Z.out ?_)
   refine bodyPost_ret (results_cell_tmp rfl _ _ w.heap.size _ zTx _ _ _ rfl rfl (setRow_heap _ _ _ _ _ _ HT6.out) Tryd.underlying35 rfl hiZ.out) rfl ?_
   exact CDecR.bad E.out rfl (below_setRow BW6.out (Nat.le_refl _) _)
  have u3 : ((pk : Int) != 0) = false := by rw [bne_eq_false_iff_eq]; omega
  have PK0 := hid (show (getP (vr.take 36)).2.2 = 0 by rw [← GPE.out.2.2]; exact hpk)
  clear hpk
  by_cases h133 : rn < 133
  case pos =>
   have u5 : decide ((rn : Int) < 133) = true := decide_eq_true (by omega)
   have u4 : decide (rn < 133) = true := decide_eq_true h133
   have E := hid (show decT bs = (([], []), 20) from by
    have e0 : (insR x.v).2 = 20 := by rw [IS.out.eq]; exact joinI_bad (by rw [insR_short2 V36.out PK0.out (by rw [← RN.out]; exact h133)]) (by decide)
    rw [DT.out, if_pos (by rw [show (insR x.pr.2).2 = 20 from e0]; decide), show (insR x.pr.2).2 = 20 from e0])
   clear h133
   go_upto_region 15 with (fail)
   go_wp2_with (first | with_reducible refine wpList_mk0 BZ.out ?_ | with_reducible refine wpList_store_row rfl _ _ _ rfl w.heap.size zTx rfl rfl _ _ HT6.out hiZ.out rfl h1Z.out ?_)
   refine bodyPost_ret (results_cell_tmp rfl _ _ w.heap.size _ zTx _ _ _ rfl rfl (setRow_heap _ _ _ _ _ _ HT6.out) Tryd.underlying35 rfl hiZ.out) rfl ?_
   exact CDecR.bad E.out rfl (below_setRow BW6.out (Nat.le_refl _) _)
  have u5 : decide ((rn : Int) < 133) = false := decide_eq_false (by omega)
  have u4 : decide (rn < 133) = false := decide_eq_false h133
  have H133 := hid (show ¬ vr.length < 133 by rw [← RN.out]; exact h133)
  obtain ⟨g1, g2⟩ := getP_zero V36.out PK0.out
  have TXE := hid (show tx = vr.take 32 ∧ po = vr.getD 35 0 from ⟨GPE.out.1.trans g1, GPE.out.2.1.trans g2⟩)
  clear g1 g2
  obtain ⟨o37, s37, q37⟩ := run_dropR (m := 37) (M := 37) rfl SL6.out (by omega)
  obtain ⟨o69, s69, q69⟩ := run_dropR (m := 69) (M := 69) rfl SL6.out (by omega)
  obtain ⟨o101, s101, q101⟩ := run_dropR (m := 101) (M := 101) rfl SL6.out (by omega)
  obtain ⟨o133, s133, q133⟩ := run_dropR (m := 133) (M := 133) rfl SL6.out (by omega)
  have S37 := hid s37
  have S69 := hid s69
  have S101 := hid s101
  have S133 := hid s133
  have RNL := hid (show 133 ≤ rn by omega)
  obtain ⟨y1, hy1⟩ : ∃ y, y = (vr.drop 37).take 32 := ⟨_, rfl⟩
  obtain ⟨y2, hy2⟩ : ∃ y, y = (vr.drop 69).take 32 := ⟨_, rfl⟩
  obtain ⟨y3, hy3⟩ : ∃ y, y = (vr.drop 101).take 32 := ⟨_, rfl⟩
  obtain ⟨pv, hpv⟩ : ∃ pv, pv = vr.getD 36 0 := ⟨_, rfl⟩
  obtain ⟨xs, hxs⟩ : ∃ xs, xs = (rdIn vr).cells := ⟨_, rfl⟩
  obtain ⟨pt, hpt⟩ : ∃ pt, pt = nums .u8 tx ++ [Value.int .i64 (po : Int)] := ⟨_, rfl⟩
  have c36 := hid (show w6.cell? ⟨rb, ro + 36, none⟩ = some (.int .u8 (pv : Int)) from by
   obtain ⟨b', o', h1, h2⟩ := SL6.out.opened
   have := h1 (by omega)
   simp only [Option.some.injEq, Addr.mk.injEq, and_true] at this
   obtain ⟨rfl, rfl⟩ := this
   rw [hpv]; exact h2 36 (by omega))
  have PVL := hid (show pv < 256 by rw [hpv]; exact getD_ltM IS.out.bd (by decide) 36)
  have Y1 := hid hy1
  have Y2 := hid hy2
  have Y3 := hid hy3
  have YL := hid (show y1.length = 32 ∧ y2.length = 32 ∧ y3.length = 32 from by
   have := RN.out
   refine ⟨?_, ?_, ?_⟩
   ·rw [hy1, List.length_take, List.length_drop]; omega
   ·rw [hy2, List.length_take, List.length_drop]; omega
   ·rw [hy3, List.length_take, List.length_drop]; omega)
  have YB := hid (show ∀ k, ∀ d ∈ (vr.drop k).take 32, d < 256 from fun k d hd => IS.out.bd d (List.mem_of_mem_drop (List.mem_of_mem_take hd)))
  have RDE := hid (show rdIn vr = ⟨tx, (po : Int), (pv : Int), y1, y2, y3⟩ from by unfold rdIn; rw [TXE.out.1, TXE.out.2, hpv, hy1, hy2, hy3])
  have BP := hid (show Tryd.prog.built 92 [(0, .agg (nums .u8 tx).toArray), (1, .int .i64 (po : Int))] = some pt.toArray from by rw [hpt]; exact brPt tx po GPK.out.1)
  have BX := hid (show Tryd.prog.built 95 [(0, .agg pt.toArray), (1, .int .i64 (pv : Int)), (2, .agg (nums .u8 y1).toArray), (3, .agg (nums .u8 y2).toArray), (4, .agg (nums .u8 y3).toArray)] = some xs.toArray from by
   rw [hpt, brIn tx y1 y2 y3 po pv GPK.out.1 YL.out.1 YL.out.2.1 YL.out.2.2, hxs, RDE.out])
  have XOK := hid (show (rdIn vr).ok from by
   rw [RDE.out]
   have h1 := GPK.out.2.2
   have h2 := PVL.out
   exact ⟨⟨GPK.out.1, GPK.out.2.1⟩, ⟨by dsimp only; omega, by dsimp only; omega⟩, ⟨by dsimp only; omega, by dsimp only; omega⟩, ⟨YL.out.1, by rw [hy1]; exact YB.out 37⟩, ⟨YL.out.2.1, by rw [hy2]; exact YB.out 69⟩, ⟨YL.out.2.2, by rw [hy3]; exact YB.out 101⟩⟩)
  have XSE := hid hxs
  have XSL := hid (show xs.length = 130 by rw [hxs]; exact InD.len XOK.out)
  have XS1 := hid (show ∀ u ∈ xs, u.oneCell' = true by rw [hxs]; exact InD.one _)
  have PL := hid (show xs.toArray.size = 130 by rw [List.size_toArray, XSL.out])
  have hPi := hid (show (Tryd.prog.info? 95).map (·.size) = some 130 by kernel_rfl)
  have hPz := hid (show ((Tryd.prog.info? 95).bind (·.zero)).isSome = true by kernel_rfl)
  have ISL := hid (show is.length < 4294967296 from by have := IS.out.cnt; have := XLE.out; omega)
  have OVL := hid (show ∀ i, vi.ownBlock = some i → w2.heap.size ≤ i ∧ i < wo.heap.size from fun i e => IS.out.own.lt _ e)
  have c0 := hid (show w6.cell? ⟨w1.heap.size, 0, none⟩ = some vi from gen_cell (j := 0) (row_range T6r.out) rfl)
  have NO1 := hid (show vi.ownBlock ≠ some w1.heap.size from fun e => by have := OVL.out _ e; have := LL.out; omega)
  have NO2 := hid (show vi.ownBlock ≠ some w5.heap.size from fun e => by have := OVL.out _ e; have := W6.out; omega)
  have NO3 := hid (show vi.ownBlock ≠ some rb from fun e => by have := OVL.out _ e; have := RBL.out; have := LL.out; omega)
  have r3 : IntKind.i64.wrap (pv : Int) = (pv : Int) := by have := PVL.out; rw [IntKind.wrap_i64]; omega
  have n1 : (36 : Int) < (rn : Int) := by omega
  have n2 : ¬ ((rn : Int) ≤ 36) := by omega
  have n3 : ¬ (rn ≤ 36) := by omega
  have n4 : 36 < rn := by omega
  have OVP := hid (ownKB OW6.out (Below.refl _ _).drew)
  have T6q := hid (heap_keep T6r.out (Below.refl _ _).drew)
  clear hy1 hy2 hy3 hpv hxs hpt s37 s69 s101 s133 h133
  go_upto_region 16 with (fail)
  clear u3 u4 u5
  refine wp_region_X (l := 22) (S := fun b w' => Keep (fun i => i = w1.heap.size ∨ vi.ownBlock = some i) w6 w' ∧ (b = false → Keep (fun i => vi.ownBlock = some i) w6 w')) (by kernel_rfl) (⟨Keep.of (Below.refl _ _).drew, fun _ => Keep.of (Below.refl _ _).drew⟩) (fun hHeld => ?_)
  try simp only [List.size_toArray, List.length_cons, List.length_nil, Nat.reduceAdd, Array.replicate_succ, Array.replicate_zero, List.push_toArray, List.nil_append, List.cons_append]
  refine tkE (i := 0) (oi := ⟨some 68, .fieldAddr 35 (.tmp 6) 0, 0, "ref.go:171", #[], none⟩) (v := ?v3001) (yi ?y3001) hHeld ?_
  case y3001 => (intro w _; go_simp; (try with_reducible rfl))
  (try simp only [Act.put, s0, s1, s2])
  refine tkE (i := 1) (oi := ⟨some 69, .load 32 (.tmp 68), 32, "ref.go:171", #[⟨0, .data⟩], none⟩) (v := vi) (Or.inl ⟨by rfl, fun w h => by have c9 := Keep.cell (h.2 rfl) c0.out NO1.out; go_simp⟩) hHeld ?_
  (try simp only [Act.put, s0, s1, s2])
  refine' tkE (i := 2) (oi := ⟨some 70, .load 48 (.tmp 8), 48, "ref.go:171", #[], none⟩) (v := _) (yieldsIf_load_mid (by rfl) _ _ rfl w5.heap.size 0 rfl (nums .u8 tx) _ (fun _ h => Keep.range (h.2 rfl) RP.out NO2.out) Tryd.underlying48 rfl hiTl.out) hHeld ?_
  (try simp only [Act.put, s0, s1, s2])
  refine tkE (i := 3) (oi := ⟨some 71, .move (.tmp 9), 3, "ref.go:171", #[], none⟩) (v := ?v3002) (yi ?y3002) hHeld ?_
  case y3002 => (intro w _; go_simp; (try with_reducible rfl))
  (try simp only [Act.put, s0, s1, s2])
  refine tkE (i := 4) (oi := ⟨some 72, .build 92 #[(0, .tmp 70), (1, .tmp 71)], 92, "ref.go:171", #[⟨2, .data⟩, ⟨3, .data⟩], none⟩) (v := (.agg pt.toArray)) (Or.inl ⟨by rfl, fun w _ => run_b2 rfl rfl rfl BP.out⟩) hHeld ?_
  (try simp only [Act.put, s0, s1, s2])
  refine tkE (i := 5) (oi := ⟨some 73, .move (.tmp 7), 22, "ref.go:171", #[], none⟩) (v := ?v3003) (yi ?y3003) hHeld ?_
  case y3003 => (intro w _; go_simp; (try with_reducible rfl))
  (try simp only [Act.put, s0, s1, s2])
  refine tkE (i := 6) (oi := ⟨some 74, .indexAddr 22 (.tmp 73) (.const (.int .i64 36)), 0, "ref.go:171", #[⟨5, .data⟩], none⟩) (v := ?v3004) (yi ?y3004) hHeld ?_
  case y3004 => (intro w _; go_simp; (try with_reducible rfl))
  (try simp only [Act.put, s0, s1, s2])
  refine tkE (i := 7) (oi := ⟨some 75, .load 5 (.tmp 74), 5, "ref.go:171", #[⟨6, .data⟩], none⟩) (v := (.int .u8 (pv : Int))) (Or.inl ⟨by rfl, fun w h => by have c9 := Keep.cell (h.2 rfl) c36.out NO3.out; go_simp⟩) hHeld ?_
  (try simp only [Act.put, s0, s1, s2])
  refine tkE (i := 8) (oi := ⟨some 76, .convert 5 3 (.tmp 75), 3, "ref.go:171", #[⟨7, .data⟩], none⟩) (v := ?v3005) (yi ?y3005) hHeld ?_
  case y3005 => (intro w _; go_simp; (try with_reducible rfl))
  (try simp only [Act.put, s0, s1, s2])
  refine tkE (i := 9) (oi := ⟨some 77, .move (.tmp 7), 22, "ref.go:171", #[], none⟩) (v := ?v3006) (yi ?y3006) hHeld ?_
  case y3006 => (intro w _; go_simp; (try with_reducible rfl))
  (try simp only [Act.put, s0, s1, s2])
  refine tkE (i := 10) (oi := ⟨some 78, .slice 22 (.tmp 77) (some (.const (.int .i64 37))) none none, 22, "ref.go:171", #[⟨9, .data⟩], none⟩) (v := ?v3007) (yi ?y3007) hHeld ?_
  case y3007 => (intro w _; go_simp; (try with_reducible rfl))
  (try simp only [Act.put, s0, s1, s2])
  refine tkE (i := 12) (oi := ⟨some 80, .move (.tmp 7), 22, "ref.go:171", #[], none⟩) (v := ?v3008) (yi ?y3008) hHeld ?_
  case y3008 => (intro w _; go_simp; (try with_reducible rfl))
  (try simp only [Act.put, s0, s1, s2])
  refine tkE (i := 13) (oi := ⟨some 81, .slice 22 (.tmp 80) (some (.const (.int .i64 69))) none none, 22, "ref.go:171", #[⟨12, .data⟩], none⟩) (v := ?v3009) (yi ?y3009) hHeld ?_
  case y3009 => (intro w _; go_simp; (try with_reducible rfl))
  (try simp only [Act.put, s0, s1, s2])
  refine tkE (i := 15) (oi := ⟨some 83, .move (.tmp 7), 22, "ref.go:171", #[], none⟩) (v := ?v3010) (yi ?y3010) hHeld ?_
  case y3010 => (intro w _; go_simp; (try with_reducible rfl))
  (try simp only [Act.put, s0, s1, s2])
  refine tkE (i := 16) (oi := ⟨some 84, .slice 22 (.tmp 83) (some (.const (.int .i64 101))) none none, 22, "ref.go:171", #[⟨15, .data⟩], none⟩) (v := ?v3011) (yi ?y3011) hHeld ?_
  case y3011 => (intro w _; go_simp; (try with_reducible rfl))
  (try simp only [Act.put, s0, s1, s2])
  refine wpAnyX_ready (rs := [11]) (by kernel_rfl) (by simp) ?_
  refine AllReadyX.cons (o := ⟨some 79, .call ⟨.value (.func 29), #[.tmp 78], #[22]⟩, 48, "ref.go:171", #[⟨10, .data⟩], none⟩) rfl (b := false) (by kernel_rfl) (fun K hK => ?_) ?_
  go_simp; refine (read32_walk _ _ _ _ (by have := RNL.out; omega) _ (Rd.kept S37.out (hHeld.2 rfl) (fun ad ha e => by cases ha; exact NO3.out e))).mono ?_; rintro e wt11 ⟨rfl, bt11⟩; rw [← Y1.out, show hv y1 = .agg (nums .u8 y1).toArray from rfl]; have KB := hid bt11; have OVP := hid (ownKB OVP.out bt11); have T6q := hid (heap_keep T6q.out bt11); clear bt11
  refine hK.out _ _ (⟨hHeld.1.trans (Keep.of KB.out), fun e => (hHeld.2 e).trans (Keep.of KB.out)⟩) (fun hHeld => ?_)
  clear hK K
  (try simp only [s0, s1, s2])
  refine wpAnyX_ready (rs := [14]) (by kernel_rfl) (by simp) ?_
  refine AllReadyX.cons (o := ⟨some 82, .call ⟨.value (.func 29), #[.tmp 81], #[22]⟩, 48, "ref.go:171", #[⟨13, .data⟩, ⟨11, .chain⟩], none⟩) rfl (b := false) (by kernel_rfl) (fun K hK => ?_) ?_
  go_simp; refine (read32_walk _ _ _ _ (by have := RNL.out; omega) _ (Rd.kept S69.out (hHeld.2 rfl) (fun ad ha e => by cases ha; exact NO3.out e))).mono ?_; rintro e wt14 ⟨rfl, bt14⟩; rw [← Y2.out, show hv y2 = .agg (nums .u8 y2).toArray from rfl]; have KB := hid bt14; have OVP := hid (ownKB OVP.out bt14); have T6q := hid (heap_keep T6q.out bt14); clear bt14
  refine hK.out _ _ (⟨hHeld.1.trans (Keep.of KB.out), fun e => (hHeld.2 e).trans (Keep.of KB.out)⟩) (fun hHeld => ?_)
  clear hK K
  (try simp only [s0, s1, s2])
  refine wpAnyX_ready (rs := [17]) (by kernel_rfl) (by simp) ?_
  refine AllReadyX.cons (o := ⟨some 85, .call ⟨.value (.func 29), #[.tmp 84], #[22]⟩, 48, "ref.go:171", #[⟨16, .data⟩, ⟨14, .chain⟩], none⟩) rfl (b := false) (by kernel_rfl) (fun K hK => ?_) ?_
  go_simp; refine (read32_walk _ _ _ _ (by have := RNL.out; omega) _ (Rd.kept S101.out (hHeld.2 rfl) (fun ad ha e => by cases ha; exact NO3.out e))).mono ?_; rintro e wt17 ⟨rfl, bt17⟩; rw [← Y3.out, show hv y3 = .agg (nums .u8 y3).toArray from rfl]; have KB := hid bt17; have OVP := hid (ownKB OVP.out bt17); have T6q := hid (heap_keep T6q.out bt17); clear bt17
  refine hK.out _ _ (⟨hHeld.1.trans (Keep.of KB.out), fun e => (hHeld.2 e).trans (Keep.of KB.out)⟩) (fun hHeld => ?_)
  clear hK K
  (try simp only [s0, s1, s2])
  refine tkE (i := 18) (oi := ⟨some 86, .build 95 #[(0, .tmp 72), (1, .tmp 76), (2, .tmp 79), (3, .tmp 82), (4, .tmp 85)], 95, "ref.go:171", #[⟨4, .data⟩, ⟨8, .data⟩, ⟨11, .data⟩, ⟨14, .data⟩, ⟨17, .data⟩], none⟩) (v := (.agg xs.toArray)) (Or.inl ⟨by rfl, fun w _ => run_build5 rfl rfl rfl rfl rfl rfl BX.out⟩) hHeld ?_
  (try simp only [Act.put, s0, s1, s2])
  refine wpAnyX_ready (rs := [19]) (by kernel_rfl) (by simp) ?_
  refine AllReadyX.cons (o := ⟨some 87, .buildSlice 32 1 #[(0, .tmp 86)], 32, "ref.go:171", #[⟨18, .data⟩], none⟩) rfl (b := false) (by kernel_rfl) (fun K hK => ?_) ?_
  rw [if_pos (by rfl)]; refine wp_lit1 _ _ _ rfl rfl Tryd.underlying32 hPi.out hPz.out PL.out (by decide) (by decide) ?_; refine newZ ?_; intro wl HL KB; have OVP := hid (ownKB OVP.out KB.out); have T6q := hid (heap_keep T6q.out KB.out)
  refine hK.out _ _ (⟨hHeld.1.trans (Keep.of KB.out), fun e => (hHeld.2 e).trans (Keep.of KB.out)⟩) (fun hHeld => ?_)
  clear hK K
  (try simp only [s0, s1, s2])
  refine wpAnyX_ready (rs := [20]) (by kernel_rfl) (by simp) ?_
  refine AllReadyX.cons (o := ⟨some 88, .call ⟨.builtin .append, #[.tmp 69, .tmp 87], #[32, 32]⟩, 32, "ref.go:171", #[⟨1, .data⟩, ⟨19, .data⟩, ⟨17, .chain⟩], none⟩) rfl (b := false) (by kernel_rfl) (fun K hK => ?_) ?_
  rw [if_pos (by rfl)]; refine wp_pushK _ _ 32 rfl tyRIn w2.heap.size OVP.out rfl rfl HL.out XSL.out XS1.out ISL.out (by decide) (by have := hHeld.1.size; have := W6.out; have := LL.out; omega) ?_; intro v7 w7 own7 k7 nb7; obtain ⟨pa7, pc7, rfl, _⟩ := Rd.of_owns own7; have O7 := hid own7; have K7 := hid k7; have T6q := hid (K7.out.heap T6q.out NO1.out); clear own7 k7 nb7
  refine hK.out _ _ (⟨hHeld.1.trans (K7.out.mono (fun i h => Or.inr h)), fun e => (hHeld.2 e).trans K7.out⟩) (fun hHeld => ?_)
  clear hK K
  (try simp only [s0, s1, s2])
  refine tkE (i := 21) (oi := ⟨some 89, .fieldAddr 35 (.tmp 6) 0, 0, "ref.go:171", #[⟨0, .phase⟩, ⟨1, .phase⟩, ⟨2, .phase⟩, ⟨3, .phase⟩, ⟨4, .phase⟩, ⟨5, .phase⟩, ⟨6, .phase⟩, ⟨7, .phase⟩, ⟨8, .phase⟩, ⟨9, .phase⟩, ⟨10, .phase⟩, ⟨11, .phase⟩, ⟨12, .phase⟩, ⟨13, .phase⟩, ⟨14, .phase⟩, ⟨15, .phase⟩, ⟨16, .phase⟩, ⟨17, .phase⟩, ⟨18, .phase⟩, ⟨19, .phase⟩, ⟨20, .phase⟩], none⟩) (v := ?v3012) (yi ?y3012) hHeld ?_
  case y3012 => (intro w _; go_simp; (try with_reducible rfl))
  (try simp only [Act.put, s0, s1, s2])
  refine wpAnyX_ready (rs := [22]) (by kernel_rfl) (by simp) ?_
  refine AllReadyX.cons (o := ⟨none, .store 32 (.tmp 89) (.tmp 88), 0, "ref.go:171", #[⟨21, .data⟩, ⟨20, .data⟩, ⟨20, .chain⟩, ⟨0, .phase⟩, ⟨1, .phase⟩, ⟨2, .phase⟩, ⟨3, .phase⟩, ⟨4, .phase⟩, ⟨5, .phase⟩, ⟨6, .phase⟩, ⟨7, .phase⟩, ⟨8, .phase⟩, ⟨9, .phase⟩, ⟨10, .phase⟩, ⟨11, .phase⟩, ⟨12, .phase⟩, ⟨13, .phase⟩, ⟨14, .phase⟩, ⟨15, .phase⟩, ⟨16, .phase⟩, ⟨17, .phase⟩, ⟨18, .phase⟩, ⟨19, .phase⟩, ⟨20, .phase⟩], none⟩) rfl (b := true) (by kernel_rfl) (fun K hK => ?_) ?_
  have c9 := gen_cell (j := 0) (row_range T6q.out) rfl; have z9 : w7.frozen? ⟨w1.heap.size, 0, none⟩ = false := frozen_of_row _ _ _ _ _ T6q.out; go_simp; refine setW T6q.out ?_; intro wz HZ FZ; clear c9 z9
  refine hK.out _ _ (⟨hHeld.1.trans (Keep.far FZ.out (Or.inl rfl)), nofun⟩) (fun hHeld => ?_)
  clear hK K
  (try simp only [s0, s1, s2])
  refine wpAnyX_done (by kernel_rfl) ?_ _
  rotate_left
  exact AllReadyX.nil
  exact AllReadyX.nil
  exact AllReadyX.nil
  exact AllReadyX.nil
  exact AllReadyX.nil
  exact AllReadyX.nil
  have KZ := hid hHeld.1
  clear hHeld
  go_wp2_with (fail)
  go_roundw
  case rel =>
   have ll := LL.out
   have w6s := W6.out
   have own7 := (Keep.far' FZ.out).own O7.out (fun g' hg' e => by have := (O7.out.lt _ hg').1; omega)
   have hl : (vr.drop 133).length = rn - 133 := by rw [List.length_drop, RN.out]
   refine ⟨is ++ [rdIn vr], vr.drop 133, some ⟨rb, o133, none⟩, rc - 133, .slice pa7 (is.length + 1) pc7, by rw [hl], HZ.out, ?_, ?_, ?_, fun d hd => IS.out.bd d (List.mem_of_mem_drop hd), ?_, fun ad ha => by cases ha; exact RBL.out, ?_, ?_⟩
   ·have e : (is ++ [rdIn vr]).flatMap InD.cells = is.flatMap InD.cells ++ xs := by rw [XSE.out]; simp
    rw [e, List.length_append]
    exact own7
   ·intro i hi
    rcases List.mem_append.1 hi with hi | hi
    ·exact IS.out.ok i hi
    ·rw [List.mem_singleton.1 hi]; exact XOK.out
   ·rw [IS.out.eq, insR_step PK0.out H133.out, joinI_join]
   ·rw [hl]; exact Rd.kept S133.out KZ.out (fun ad ha e => by cases ha; rcases e with e | e; exact absurd e (by have := RBL.out; dsimp only at *; omega); exact NO3.out e)
   ·exact (IS.out.keep.then (Keep.of B6o.out) (fun i hi e => absurd e id)).then KZ.out (fun i hi e => by rcases e with e | e; exact e; (have := OVL.out _ e; omega))
   ·have := IS.out.cnt
    rw [List.length_append, List.length_drop]
    have h1 : ([rdIn vr] : List InD).length = 1 := rfl
    have := H133.out
    omega
  case measure =>
   have := RNL.out
   simp only [lenOf_slice]
   omega
end Go.Proofs.YtnbmpgballopeaaDoor

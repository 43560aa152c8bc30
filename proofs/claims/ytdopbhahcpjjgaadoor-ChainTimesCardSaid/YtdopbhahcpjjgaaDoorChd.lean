/- The chain's transaction as bytes: body. -/
import Derived.Test.YtdopbhahcpjjgaaDoorChb
namespace Go.Proofs.YtdopbhahcpjjgaaDoor
open Go.RowKit

def inB (i : InD) : List Nat := i.tx ++ f4 i.out
def bodyB (t : TxD) : List Nat := [t.ins.length % 256, t.ins.length / 256 % 256] ++ (t.ins.flatMap inB ++ t.outs.flatMap outB)
theorem inB_len {i : InD} (h : i.ok) : (inB i).length = 36 := by simp [inB, h.tx.1, f4_len]
theorem insB_len : ∀ {is : List InD}, (∀ i ∈ is, i.ok) → (is.flatMap inB).length = 36 * is.length
  | [], _ => rfl
  | i :: r, h => by
    rw [List.flatMap_cons, List.length_append, inB_len (h i (by simp)), insB_len (fun q hq => h q (by simp [hq])), List.length_cons]; omega
theorem own_lit2 (w : World) (a b : Nat) : (w.alloc (.cells #[.int .u8 (a : Int), .int .u8 (b : Int)] 5)).ownsRow w.heap.size 5 1 (.slice (some ⟨w.heap.size, 0, none⟩) 2 2) 2 (nums .u8 [a, b]) :=
  ⟨rfl, .inr ⟨w.heap.size, 2, _, rfl, Nat.le_refl _, heap_alloc_new _ _, Nat.le_refl _, by decide, rfl, rfl⟩⟩
set_option maxRecDepth 100000 in
set_option maxHeartbeats 8000000 in
theorem cbody_walk (t : TxD) (w : World) (h : t.good w) (hN : t.ins.length ≤ 256) (hM : t.outs.length ≤ 256) (h4 : ∀ o ∈ t.outs, o.paths.length ≤ 4) :
    Calls Tryd.prog 27 #[.agg t.cells.toArray] w (OutsR w (bodyB t)) := by
  obtain ⟨N, hN'⟩ : ∃ N, N = t.ins.length := ⟨_, rfl⟩
  obtain ⟨M, hM'⟩ : ∃ M, M = t.outs.length := ⟨_, rfl⟩
  obtain ⟨ia, hia⟩ : ∃ ia, ia = t.ia := ⟨_, rfl⟩
  obtain ⟨ic, hic⟩ : ∃ ic, ic = t.ic := ⟨_, rfl⟩
  obtain ⟨oa, hoa⟩ : ∃ oa, oa = t.oa := ⟨_, rfl⟩
  obtain ⟨oc, hoc⟩ : ∃ oc, oc = t.oc := ⟨_, rfl⟩
  have G := hid h
  have NN := hid (And.intro hN' hM')
  have NB := hid (show N ≤ 256 ∧ M ≤ 256 by rw [hN', hM']; exact ⟨hN, hM⟩)
  have H4 := hid h4
  have PI := hid (show Rd w 130 ia N ic (t.ins.flatMap InD.cells) by rw [hia, hic, hN']; exact h.ins)
  have PO := hid (show Rd w 34 oa M oc (t.outs.flatMap OutD.cells) by rw [hoa, hoc, hM']; exact h.outs)
  have OLEN := hid (show (t.outs.flatMap outB).length ≤ 457 * 256 from by
    have := outsB_len (os := t.outs) (fun o ho => ⟨(h.ook o ho).anchor.1, (h.ook o ho).ok, h4 o ho⟩)
    omega)
  have ILEN := hid (show ∀ k, ((t.ins.take k).flatMap inB).length ≤ 36 * 256 from fun k => by
    rw [insB_len (fun i hi => h.iok i (List.mem_of_mem_take hi)), List.length_take]; omega)
  have e : t.cells = [.slice ia N ic, .slice oa M oc] := by unfold TxD.cells; rw [hia, hic, hN', hoa, hoc, hM']
  rw [e]
  obtain ⟨c0, hc0⟩ : ∃ c0, c0 = N % 256 := ⟨_, rfl⟩
  obtain ⟨c1, hc1⟩ : ∃ c1, c1 = N / 256 % 256 := ⟨_, rfl⟩
  have r0 : IntKind.u8.wrap (N : Int) = (c0 : Int) := by rw [IntKind.wrap_u8]; omega
  have r0' : (N : Int) % 256 = (c0 : Int) := by omega
  have r1 : IntKind.u8.wrap ((N : Int) / 256) = (c1 : Int) := by rw [IntKind.wrap_u8]; omega
  have r1' : (N : Int) / 256 % 256 = (c1 : Int) := by omega
  have HC := hid (And.intro hc0 hc1)
  have b1 := (Below.refl w.heap.size w).alloc (Nat.le_refl _) (.cells #[.slice ia N ic, .slice oa M oc] 25)
  have k0 : (w.alloc (.cells #[.slice ia N ic, .slice oa M oc] 25)).cell? ⟨w.heap.size, 0, none⟩ = some (.slice ia N ic) := gen_cell (j := 0) (row_range (L := [.slice ia N ic, .slice oa M oc]) (heap_alloc_new w _)) rfl
  have k1 : (w.alloc (.cells #[.slice ia N ic, .slice oa M oc] 25)).cell? ⟨w.heap.size, 1, none⟩ = some (.slice oa M oc) := gen_cell (j := 1) (row_range (L := [.slice ia N ic, .slice oa M oc]) (heap_alloc_new w _)) rfl
  have B1 := hid b1
  clear h hN hM hN' hM' hia hic hoa hoc e b1 h4 hc0 hc1
  go_enter Tryd.func27, Tryd.ntmps27
  go_upto_region 1 with (fail)
  generalize w.alloc (.cells #[.slice ia N ic, .slice oa M oc] 25) = w1 at *
  have K0 := hid k0
  have K1 := hid k1
  have M2 := hid (own_lit2 w1 c0 c1)
  have bl := hid ((Below.refl w1.heap.size w1).alloc (Nat.le_refl _) (.cells #[.int .u8 (c0 : Int), .int .u8 (c1 : Int)] 5))
  have k0' := cell_keep bl.out k0
  go_upto_region 3 with (fail)
  clear r0 r0' r1 r1' k0 k1 k0'
  go_loopw [3, 19] (fun x3 x19 wr => ∃ (k : Nat) (v3 : Value), v3 = x3 ∧ k ≤ N ∧ x19 = .int .i64 (k : Int) ∧ wr.ownsRow w1.heap.size 5 1 v3 (2 + ((t.ins.take k).flatMap inB).length) (nums .u8 ([c0, c1] ++ (t.ins.take k).flatMap inB)) ∧ Below w1.heap.size w1 wr) (fun _ x19 _ => N - (intOf x19).toNat)
  case atStart => exact ⟨0, _, rfl, Nat.zero_le _, rfl, M2.out, bl.out⟩
  case round =>
    obtain ⟨k, v3, hv3, hk, rfl, ho, hb⟩ := hrel
    obtain ⟨wo, rfl⟩ : ∃ wo, wo = wr := ⟨_, rfl⟩
    subst hv3
    have BR := hid hb
    have OW := hid ho
    have BW := hid (B1.out.trans (hb.mono B1.out.size))
    clear hb ho M2 bl
    by_cases hlk : k < N
    case neg =>
      obtain rfl : k = N := by omega
      have u1 : decide (k < k) = false := decide_eq_false (by omega)
      have u2 : decide ((k : Int) < (k : Int)) = false := decide_eq_false (by omega)
      have k1' := cell_keep BR.out K1.out
      have CO := hid (couts_walk oa M oc t.outs wo NN.out.2 (PO.out.below BW.out) (fun o ho => (G.out.ook o ho).below BW.out) H4.out NB.out.2)
      clear hk hlk
      go_wp2_with (fail)
      refine CO.out.mono ?_
      rintro e w5 ⟨v5, rfl, o5, b5⟩
      obtain ⟨ol, hol⟩ : ∃ ol, ol = (t.outs.flatMap outB).length := ⟨_, rfl⟩
      have HOL := hid (show ol ≤ 457 * 256 by rw [hol]; exact OLEN.out)
      rw [← hol] at o5
      obtain ⟨a5, c5, rfl, rd5⟩ := Rd.of_owns o5
      have RD5 := hid rd5
      have B5 := hid b5
      have OW5 := hid (ownKB OW.out b5)
      have NL := hid (ILEN.out k)
      clear o5 b5 rd5 CO k1' hol
      go_wp2_with (at_builtin; refine wpList_when (by rfl) (fun K hK => wp_cat _ _ 73 rfl tyBy w1.heap.size OW5.out rfl rfl RD5.out (nums_oneCell _ _) (by have := NL.out; have := HOL.out; omega) (by have := NL.out; have := HOL.out; unfold maxLen; omega) (Nat.le_trans BR.out.size B5.out.size) (fun v6 w6 own6 g6 nb6 => hK _ _ ?_)); clear hK K; have O6 := hid own6; have B6 := hid ((Keep.grown g6 (S := fun i => v3.ownBlock = some i) (fun _ e => e)).below (B := w1.heap.size) (fun i e => (OW5.out.lt _ e).1) (Nat.le_trans BR.out.size B5.out.size)); clear own6 g6 nb6)
      go_ret
      refine ⟨v6, rfl, ?_, BW.out.trans ((B5.out.mono BW.out.size).trans (B6.out.mono B1.out.size))⟩
      have o6 := own_mono O6.out B1.out.size
      rw [nums_append] at o6
      have hl := o6.1
      rw [nums_length, Nat.mul_one] at hl
      have e : bodyB t = [c0, c1] ++ (t.ins.take k).flatMap inB ++ t.outs.flatMap outB := by
        unfold bodyB
        rw [HC.out.1, HC.out.2, NN.out.1, List.take_length, List.append_assoc]
      rw [e, hl]
      exact o6
    have u1 : decide (k < N) = true := decide_eq_true hlk
    have u2 : decide ((k : Int) < (N : Int)) = true := decide_eq_true (by omega)
    have u6 : (k : Int) < (N : Int) := by omega
    have u7 : ¬ ((N : Int) ≤ (k : Int)) := by omega
    have u8' : ¬ (N ≤ k) := by omega
    obtain ⟨x, hx⟩ : ∃ x, t.ins[k]? = some x := ⟨_, List.getElem?_eq_getElem (by rw [← NN.out.1]; exact hlk)⟩
    have xok := hid (G.out.iok x (List.mem_of_getElem? hx))
    obtain ⟨b, off, rfl, rg⟩ := rd_row (fun z hz => InD.len (G.out.iok z hz)) PI.out hx hlk
    have rgr := range_keep BW.out rg
    obtain ⟨xcs, hxcs⟩ : ∃ xcs, xcs = x.cells := ⟨_, rfl⟩
    have XL := hid (show xcs.length = 130 by rw [hxcs]; exact InD.len xok.out)
    rw [← hxcs] at rgr
    have hiC := hid (show (Tryd.prog.info? 33).map (·.size) = some xcs.length by rw [XL.out]; kernel_rfl)
    have hiCa := hid (show (Tryd.prog.info? 33).map (·.size) = some xcs.toArray.size by rw [List.size_toArray, XL.out]; kernel_rfl)
    have hoC := hid (show 130 = xcs.toArray.size by rw [List.size_toArray, XL.out])
    have h16 := hid (show (xcs.toArray.all fun x => x.oneCell') = true by rw [hxcs]; exact all_oneCell_toArray (InD.one x))
    obtain ⟨k1n, hk1⟩ : ∃ k1n, k1n = k + 1 := ⟨_, rfl⟩
    have r4 : IntKind.i64.wrap ((k : Int) + 1) = (k1n : Int) := by have := NB.out; rw [IntKind.wrap_i64]; omega
    have I1 := hid (And.intro hk1 hlk)
    have XC := hid (show (xcs.drop 0).take 33 = ptI x.tx x.out from by rw [hxcs]; exact InD.point xok.out)
    have HX := hid hx
    have NL := hid (ILEN.out k)
    clear hk hlk hx rg hxcs hk1
    go_upto_region 5 with (first | with_reducible refine wpList_load_mid rfl _ _ rfl b (off + k * 130) rfl xcs _ rgr Tryd.underlying33 rfl hiC.out ?_ | (refine wpList_store_row rfl _ _ _ rfl wo.heap.size xcs.toArray rfl rfl _ _ (heap_alloc_new _ _) hiCa.out hoC.out h16.out ?_; refine laidW (F := fun w3 => wpList _ _ _ _ _ w3) ?_; intro w3 h3 b3))
    have px := gen_range (row_range h3.out) 0 33
    rw [XC.out] at px
    obtain ⟨lx, hlx⟩ : ∃ lx, lx = ptI x.tx x.out := ⟨_, rfl⟩
    have hiP := hid (show (Tryd.prog.info? 31).map (·.size) = some lx.length from by rw [hlx, show (ptI x.tx x.out).length = 33 by simp [ptI, xok.out.tx.1]]; kernel_rfl)
    have CP := hid (cput_walk x.tx x.out xok.out.tx w3)
    rw [← hlx] at CP px
    have OW3 := hid (ownKB OW.out b3.out)
    clear u1 u2 u6 u7 u8' rgr hlx
    go_wp2_with (with_reducible refine wpList_load_mid rfl _ _ rfl wo.heap.size 0 rfl lx _ px Tryd.underlying31 rfl hiP.out ?_)
    refine CP.out.mono ?_
    rintro e w5 ⟨v5, rfl, o5, b5⟩
    have l5 : (x.tx ++ f4 x.out).length = 36 := inB_len xok.out
    rw [l5] at o5
    obtain ⟨a5, c5, rfl, rd5⟩ := Rd.of_owns o5
    have RD5 := hid rd5
    have OW5 := hid (ownKB OW3.out b5)
    have B5 := hid (show Below w1.heap.size w1 w5 from (BR.out.trans (b3.out.mono BR.out.size)).trans (b5.mono (Nat.le_trans BR.out.size b3.out.size)))
    clear o5 b5 rd5 CP px l5
    go_wp2_with (at_builtin; refine wpList_when (by rfl) (fun K hK => wp_cat _ _ 73 rfl tyBy w1.heap.size OW5.out rfl rfl RD5.out (nums_oneCell _ _) (by have := NL.out; omega) (by have := NL.out; unfold maxLen; omega) B5.out.size (fun v6 w6 own6 g6 nb6 => hK _ _ ?_)); clear hK K; have O6 := hid own6; have B6 := hid ((Keep.grown g6 (S := fun i => v3.ownBlock = some i) (fun _ e => e)).below (B := w1.heap.size) (fun i e => (OW5.out.lt _ e).1) B5.out.size); clear own6 g6 nb6)
    go_roundw
    case rel =>
      refine ⟨k1n, v6, rfl, by have := I1.out; omega, rfl, ?_, B5.out.trans B6.out⟩
      have o6 := O6.out
      rw [nums_append] at o6
      have hl := o6.1
      rw [nums_length, Nat.mul_one] at hl
      have e : [c0, c1] ++ (t.ins.take k).flatMap inB ++ (x.tx ++ f4 x.out) = [c0, c1] ++ (t.ins.take k1n).flatMap inB := by
        rw [I1.out.1, List.take_add_one, HX.out, List.flatMap_append]
        simp [inB]
      rw [e] at o6 hl
      rw [← hl] at o6
      rw [show 2 + ((t.ins.take k1n).flatMap inB).length = ([c0, c1] ++ (t.ins.take k1n).flatMap inB).length from by rw [List.length_append]; rfl]
      exact o6
    case measure => simp [intOf]; have := I1.out; omega
end Go.Proofs.YtdopbhahcpjjgaaDoor

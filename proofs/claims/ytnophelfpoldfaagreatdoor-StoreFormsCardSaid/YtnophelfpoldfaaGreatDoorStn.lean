/- The law's done: pairs behind changes. -/
import Derived.Test.YtnophelfpoldfaaGreatDoorStq
import Derived.Test.YtnophelfpoldfaaGreatDoorGCat
import Derived.Test.YtnophelfpoldfaaGreatDoorGSts
namespace Go.Proofs.YtnophelfpoldfaaGreatDoor
open Go.RowKit

theorem infoPa : (Tryz.prog.info? 52).map (fun i => (i.zero, i.size, i.bytes)) = some (some (.agg #[.slice none 0 0, .slice none 0 0]), 2, 48) := by kernel_rfl
theorem tyPa : SliceTy Tryz.prog 31 52 2 48 (.agg #[.slice none 0 0, .slice none 0 0]) := .mk' Tryz.underlying31 infoPa rfl (by decide)
def DoneR (w : World) (all : List LP) (cs : List LC) (e : Ending) (w' : World) : Prop := ∃ a c, e = .returned (.slice a (doneL all cs).length c) ∧ Prs w' a (doneL all cs).length c (doneL all cs) ∧ Below w.heap.size w w'
/-- pairs under way: their row, whose bytes lie in the old world -/
def PrI (w : World) (B : Nat) (ps : List LP) (v : Value) (wr : World) : Prop := wr.ownsRow B 52 2 v ps.length (ps.flatMap LP.cells) ∧ ∀ l ∈ ps, l.good w
set_option maxRecDepth 100000 in
set_option maxHeartbeats 8000000 in
theorem done_walk (a : Option Addr) (N c : Nat) (all : List LP) (a' : Option Addr) (L c' : Nat) (cs : List LC) (w : World) (h : Prs w a N c all) (h' : Chs w a' L c' cs) (hN : N ≤ 1000000) (hL : L ≤ 1000000) :
    Calls Tryz.prog 20 #[.slice a N c, .slice a' L c'] w (DoneR w all cs) := by
  have HA := hid h
  have HC := hid h'
  have HN := hid hN
  have HL := hid hL
  have LL := hid h'.2.1
  clear h h' hN hL
  go_enter Tryz.func20, Tryz.ntmps20
  go_wp2_with (fail)
  go_loopw [0, 12] (fun x0 x12 wr => ∃ (j : Nat) (a0 : Option Addr) (n0 c0 : Nat), .slice a0 n0 c0 = x0 ∧ j ≤ L ∧ x12 = .int .i64 (j : Int) ∧ Rd wr 2 a0 n0 c0 ((doneL all (cs.take j)).flatMap LP.cells) ∧ (doneL all (cs.take j)).length = n0 ∧ n0 ≤ N + j ∧ (∀ l ∈ doneL all (cs.take j), l.good w) ∧ Below w.heap.size w wr) (fun _ x12 _ => L - (intOf x12).toNat)
  case atStart => exact ⟨0, a, N, c, rfl, Nat.zero_le _, rfl, HA.out.1, HA.out.2.1, Nat.le_refl _, HA.out.2.2, Below.refl _ _⟩
  case round =>
    obtain ⟨wo, rfl⟩ : ∃ wo, wo = wr := ⟨_, rfl⟩
    obtain ⟨j, a0, n0, c0, rfl, hj, rfl, hr, hn, hle, hg, hb⟩ := hrel
    have R0 := hid hr
    have N0 := hid hn
    have NL := hid hle
    have G0 := hid hg
    have B0 := hid hb
    clear hr hn hle hg hb
    by_cases hlt : j < L
    case neg =>
      obtain rfl : j = L := by omega
      have t1 : decide (j < j) = false := decide_eq_false (by omega)
      have t2 : decide ((j : Int) < (j : Int)) = false := decide_eq_false (by omega)
      clear hj hlt
      go_wp2_with (fail)
      go_ret
      have e : cs.take j = cs := List.take_of_length_le (by rw [LL.out]; exact Nat.le_refl _)
      have r := R0.out
      have nn := N0.out
      have gg := G0.out
      rw [e] at r nn gg
      subst nn
      exact ⟨a0, c0, rfl, ⟨r, rfl, fun l hl => (gg l hl).below B0.out⟩, B0.out⟩
    have t1 : decide (j < L) = true := decide_eq_true hlt
    have t2 : decide ((j : Int) < (L : Int)) = true := decide_eq_true (by omega)
    obtain ⟨l, hl⟩ := get_some LL.out hlt
    obtain ⟨b, off, rfl, c0', c1', c2', gd⟩ := (HC.out.below B0.out).cells hl
    have GL := hid (HC.out.2.2 l (List.mem_of_getElem? hl))
    have TS := hid (show cs.take (j + 1) = cs.take j ++ [l] from take_succ_some hl)
    obtain ⟨ps, hps⟩ : ∃ ps, ps = doneL all (cs.take j) := ⟨_, rfl⟩
    have PS := hid hps
    rw [← hps] at R0 N0 G0
    obtain ⟨j1, hj1⟩ : ∃ j1, j1 = j + 1 := ⟨_, rfl⟩
    have r4 : IntKind.i64.wrap ((j : Int) + 1) = (j1 : Int) := by have := HL.out; rw [IntKind.wrap_i64]; omega
    have J1 := hid hj1
    have LT := hid hlt
    obtain ⟨ka, kc, k, va, vc, v, g⟩ := l
    have d0 : wo.cell? ⟨b, off + j * 3, none⟩ = some (.slice ka k.length kc) := c0'
    have d1 : wo.cell? ⟨b, off + j * 3 + 1, none⟩ = some (.slice va v.length vc) := c1'
    have d2 : wo.cell? ⟨b, off + j * 3 + 2, none⟩ = some (.bool g) := c2'
    clear c0' c1' c2' hl gd hj hlt hps hj1
    go_upto_region 4 with (fail)
    refine newW ?_
    intro wa HWA BA
    obtain ⟨gA, hgA⟩ := nameS HWA.out
    rw [hgA] at HWA
    rw [hgA]
    have GA := hid (show w.heap.size ≤ gA ∧ gA < wa.heap.size from ⟨by rw [← hgA]; exact B0.out.size, (Array.getElem?_eq_some_iff.1 HWA.out).1⟩)
    have BWA := hid (B0.out.trans (BA.out.mono B0.out.size))
    clear hgA
    have OE := hid (World.ownsRow_made (base := wa.heap.size) (e := 52) (size := 2) wa #[] 0 (Nat.le_refl _) (by simp) (by simp))
    have BE := hid ((Below.refl wa.heap.size wa).alloc (Nat.le_refl _) (.cells #[] 52))
    have e0 : wa.cell? ⟨gA, 0, none⟩ = some (.slice ka k.length kc) := gen_cell (L := [.slice ka k.length kc, .slice va v.length vc, .bool g]) (j := 0) (row_range HWA.out) rfl
    have e1 : wa.cell? ⟨gA, 1, none⟩ = some (.slice va v.length vc) := gen_cell (L := [.slice ka k.length kc, .slice va v.length vc, .bool g]) (j := 1) (row_range HWA.out) rfl
    have e2 : wa.cell? ⟨gA, 2, none⟩ = some (.bool g) := gen_cell (L := [.slice ka k.length kc, .slice va v.length vc, .bool g]) (j := 2) (row_range HWA.out) rfl
    have E0 := hid e0
    have E1 := hid e1
    have E2 := hid e2
    clear e0 e1 e2 d0 d1 d2 HWA
    go_wp2_with (fail)
    go_loopw [7, 19] (fun x7 x19 wi => ∃ (i : Nat) (v7 : Value), v7 = x7 ∧ i ≤ n0 ∧ x19 = .int .i64 (i : Int) ∧ wi.ownsRow wa.heap.size 52 2 v7 (keepL (ps.take i) k).length ((keepL (ps.take i) k).flatMap LP.cells) ∧ Below wa.heap.size wa wi) (fun _ x19 _ => n0 - (intOf x19).toNat)
    case atStart => exact ⟨0, _, rfl, Nat.zero_le _, rfl, OE.out, BE.out⟩
    case round =>
      obtain ⟨i, v7, rfl, hi, rfl, ho, hb⟩ := hrel
      have OI := hid ho
      have BI := hid hb
      clear ho hb
      by_cases hlt : i < n0
      case pos =>
        have t3 : decide (i < n0) = true := decide_eq_true hlt
        have t4 : decide ((i : Int) < (n0 : Int)) = true := decide_eq_true (by omega)
        obtain ⟨p, hp⟩ := get_some N0.out hlt
        have BWI := hid (BWA.out.trans (BI.out.mono BWA.out.size))
        obtain ⟨pb, poff, rfl, p0, p1, _⟩ := Prs.cells (w := wr) ⟨R0.out.below (BA.out.trans (BI.out.mono BA.out.size)), N0.out, fun l hl => (G0.out l hl).below BWI.out⟩ hp
        have GP := hid (G0.out p (List.mem_of_getElem? hp))
        have TP := hid (show keepL (ps.take (i + 1)) k = keepL (ps.take i) k ++ (if p.k = k then [] else [p]) by
          unfold keepL
          rw [take_succ_some hp, List.filter_append]
          congr 1
          by_cases e : p.k = k <;> simp [e])
        have KL := hid (show (keepL (ps.take i) k).length ≤ 2000000 by
          have h1 := List.length_filter_le (fun p : LP => decide (p.k ≠ k)) (ps.take i)
          have h2 := List.length_take_le i ps
          have := NL.out; have := HN.out; have := HL.out; have := LT.out
          unfold keepL
          omega)
        obtain ⟨i1, hi1⟩ : ∃ i1, i1 = i + 1 := ⟨_, rfl⟩
        have r5 : IntKind.i64.wrap ((i : Int) + 1) = (i1 : Int) := by have := NL.out; have := HN.out; have := HL.out; have := LT.out; rw [IntKind.wrap_i64]; omega
        have I1 := hid hi1
        have IT := hid hlt
        obtain ⟨pka, pkc, pk, pva, pvc, pv⟩ := p
        have p0' : wr.cell? ⟨pb, poff + i * 2, none⟩ = some (.slice pka pk.length pkc) := p0
        have p1' : wr.cell? ⟨pb, poff + i * 2 + 1, none⟩ = some (.slice pva pv.length pvc) := p1
        clear p0 p1 hp hi hlt hi1
        go_upto_region 8 with (fail)
        refine newW ?_
        intro wp HP BP
        obtain ⟨gP, hgP⟩ := nameS HP.out
        rw [hgP] at HP
        rw [hgP]
        have BWP := hid (BI.out.trans (BP.out.mono BI.out.size))
        have f0 : wp.cell? ⟨gP, 0, none⟩ = some (.slice pka pk.length pkc) := gen_cell (L := [.slice pka pk.length pkc, .slice pva pv.length pvc]) (j := 0) (row_range HP.out) rfl
        have f1 : wp.cell? ⟨gP, 1, none⟩ = some (.slice pva pv.length pvc) := gen_cell (L := [.slice pka pk.length pkc, .slice pva pv.length pvc]) (j := 1) (row_range HP.out) rfl
        have c0 := cell_keep BWP.out E0.out
        have SM := hid (same_walk pka ka pk.length pkc k.length kc pk k GP.out.k8 GL.out.k8 wp (GP.out.ks.below (BWA.out.trans (BWP.out.mono BWA.out.size))) (GL.out.ks.below (BWA.out.trans (BWP.out.mono BWA.out.size))))
        have OP := hid (own_below OI.out BP.out)
        clear hgP p0' p1'
        by_cases he : pk = k
        case pos =>
          have q1 : decide (pk = k) = true := decide_eq_true he
          have TQ := hid (show keepL (ps.take i1) k = keepL (ps.take i) k by rw [I1.out, TP.out, if_pos he, List.append_nil])
          clear he
          go_wp2_with (fail)
          refine SM.out.mono ?_
          rintro e w8 ⟨rfl, rfl⟩
          go_wp2_with (fail)
          go_roundw
          case rel => exact ⟨i1, v7, rfl, by have := I1.out; have := IT.out; omega, rfl, by rw [TQ.out]; exact OP.out, BWP.out⟩
          case measure => simp [intOf]; have := I1.out; have := IT.out; omega
        have q1 : decide (pk = k) = false := decide_eq_false he
        have TQ := hid (show keepL (ps.take i1) k = keepL (ps.take i) k ++ [⟨pka, pkc, pk, pva, pvc, pv⟩] by rw [I1.out, TP.out, if_neg he])
        clear he
        go_wp2_with (fail)
        refine SM.out.mono ?_
        rintro e w8 ⟨rfl, rfl⟩
        go_wp2_with (at_builtin; refine wpList_push rfl _ _ 31 rfl tyPa wa.heap.size OP.out rfl rfl rfl rfl (by have := KL.out; omega) (by decide) BWP.out.size ?_; intro v9 w9 own9 b9 _ _)
        have O9 := hid (show w9.ownsRow wa.heap.size 52 2 v9 (keepL (ps.take i1) k).length ((keepL (ps.take i1) k).flatMap LP.cells) by
          rw [TQ.out, List.length_append, List.flatMap_append]; exact own9)
        have B9 := hid (BWP.out.trans b9)
        clear own9 b9
        go_wp2_with (fail)
        go_roundw
        case rel => exact ⟨i1, v9, rfl, by have := I1.out; have := IT.out; omega, rfl, O9.out, B9.out⟩
        case measure => simp [intOf]; have := I1.out; have := IT.out; omega
      obtain rfl : i = n0 := by omega
      have t3 : decide (i < i) = false := decide_eq_false (by omega)
      have t4 : decide ((i : Int) < (i : Int)) = false := decide_eq_false (by omega)
      have KP := hid (show keepL (ps.take i) k = keepL ps k by rw [List.take_of_length_le (by rw [N0.out]; exact Nat.le_refl _)])
      rw [KP.out] at OI
      have c0 := cell_keep BI.out E0.out
      have c1 := cell_keep BI.out E1.out
      have c2 := cell_keep BI.out E2.out
      have KL := hid (show (keepL ps k).length ≤ i by have := List.length_filter_le (fun p : LP => decide (p.k ≠ k)) ps; have := N0.out; unfold keepL; omega)
      have ST := hid (show doneL all (cs.take j1) = stepL ps ⟨ka, kc, k, va, vc, v, g⟩ by rw [J1.out, TS.out, doneL_snoc, PS.out])
      have BW := hid (BWA.out.trans (BI.out.mono BWA.out.size))
      clear hi hlt
      cases g with
      | true =>
        obtain ⟨a7, c7, rfl, rd7⟩ := Rd.of_owns OI.out
        have RD := hid rd7
        have SQ := hid (show stepL ps ⟨ka, kc, k, va, vc, v, true⟩ = keepL ps k by unfold stepL; simp)
        clear rd7
        go_wp2_with (fail)
        go_roundw
        case rel =>
          refine ⟨j1, a7, _, c7, rfl, by have := J1.out; have := LT.out; omega, rfl, ?_, ?_, ?_, ?_, BW.out⟩
          · rw [ST.out, SQ.out]; exact RD.out
          · rw [ST.out, SQ.out]
          · have := KL.out; have := NL.out; have := J1.out; omega
          · rw [ST.out]; exact stepL_good G0.out GL.out
        case measure => simp [intOf]; have := J1.out; have := LT.out; omega
      | false =>
        go_wp2_with (at_builtin; refine wpList_push rfl _ _ 31 rfl tyPa wa.heap.size OI.out rfl rfl rfl rfl (by have := KL.out; have := NL.out; have := HN.out; have := HL.out; have := LT.out; omega) (by decide) BI.out.size ?_; intro v9 w9 own9 b9 _ _)
        have SQ := hid (show stepL ps ⟨ka, kc, k, va, vc, v, false⟩ = keepL ps k ++ ([⟨ka, kc, k, va, vc, v⟩] : List LP) by unfold stepL; rfl)
        have O9 := hid (show w9.ownsRow wa.heap.size 52 2 v9 ((keepL ps k).length + 1) ((keepL ps k ++ ([⟨ka, kc, k, va, vc, v⟩] : List LP)).flatMap LP.cells) by
          rw [List.flatMap_append]; exact own9)
        have B9 := hid (BW.out.trans (b9.mono BWA.out.size))
        obtain ⟨a7, c7, rfl, rd7⟩ := Rd.of_owns O9.out
        have RD := hid rd7
        clear own9 b9 rd7
        go_wp2_with (fail)
        go_roundw
        case rel =>
          refine ⟨j1, a7, _, c7, rfl, by have := J1.out; have := LT.out; omega, rfl, ?_, ?_, ?_, ?_, B9.out⟩
          · rw [ST.out, SQ.out]; exact RD.out
          · rw [ST.out, SQ.out, List.length_append]; rfl
          · have := KL.out; have := NL.out; have := J1.out; omega
          · rw [ST.out]; exact stepL_good G0.out GL.out
        case measure => simp [intOf]; have := J1.out; have := LT.out; omega
end Go.Proofs.YtnophelfpoldfaaGreatDoor

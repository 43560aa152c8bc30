/- The walk of the statement EdgeKeeps. -/
import Derived.Test.YthccjefhlmngbaaDoorKq
import Derived.Test.YthccjefhlmngbaaDoorEg4
namespace Go.Proofs.YthccjefhlmngbaaDoor
open Go.RowKit

def kepF (A20 A22 A24 A28 : Code) : Nat → Option Code
  | 20 => some A20
  | 22 => some A22
  | 24 => some A24
  | 28 => some A28
  | _ => none
noncomputable def kepX (A20 A22 A24 A28 : Code) : Code := putG (kepF A20 A22 A24 A28) (Tryd.f6.body.getD .skip)
/-- what a round finds -/
def KepI (w0 w : World) (eb tb mb : Nat) (dl : Int) (B nq : Nat) : Prop := ∃ v L M, Ses w0.heap.size w0 w eb tb mb dl B v L M nq ∧ Lk L ∧ Fit M
theorem getQ_ok {w : World} {tb mb n : Nat} {M : QM} (h : TabAt w tb mb M n) (no : List Nat) : ((M no).getD qz).ok := by
  cases hm : M no with
  | none => exact qz_ok
  | some q => exact h.ok no q hm
theorem setC_keep {L L' : List Fw} {M M' : QM} {line no : Int} {sec : List Nat} {lg : Lg} {k : Nat} (h : SetC L M line no sec lg k L' M') (hL : Lk L) : Lk L' ∧ M' = M ∧ (k = 0 → sha sec = lg.o.lock) := by
  obtain ⟨rfl, h⟩ := h
  rcases h with ⟨-, -, rfl, rfl⟩ | ⟨j, f, hf, ⟨-, -, rfl, rfl⟩ | ⟨-, -, -, rfl, rfl⟩ | ⟨h1, -, rfl, rfl, rfl⟩⟩
  · exact ⟨hL, rfl, fun e => absurd e (by decide)⟩
  · exact ⟨hL, rfl, fun e => absurd e (by decide)⟩
  · exact ⟨hL, rfl, fun e => absurd e (by decide)⟩
  · have g := hL.get hf.1; exact ⟨hL.set j g, rfl, fun _ => h1.trans g.symm⟩
theorem givC_keep {L L' : List Fw} {M M' : QM} {line no : Int} {lg : Lg} {k : Nat} (h : GivC L M line no lg k L' M') (hL : Lk L) (hM : Fit M) : Lk L' ∧ Fit M' := by
  rcases h with ⟨-, -, -, rfl, rfl⟩ | ⟨j, f, hf, ⟨-, -, -, rfl, rfl⟩ | ⟨-, -, -, rfl, rfl⟩⟩
  · exact ⟨hL, hM⟩
  · exact ⟨hL, hM⟩
  · have g := hL.get hf.1; exact ⟨hL.set j g, hM.undo _ _⟩
theorem cloC_keep {L L' : List Fw} {line no : Int} {k : Nat} (h : CloC L line no k L') (hL : Lk L) : Lk L' := by
  rcases h with ⟨-, -, rfl⟩ | ⟨j, f, hf, ⟨-, -, rfl⟩ | ⟨-, -, rfl⟩⟩
  · exact hL
  · exact hL
  · exact hL.erase j
set_option maxRecDepth 1000000 in
set_option maxHeartbeats 16000000 in
theorem lawKeeps (dli : Int) (qa : Option Addr) (ql qc : Nat) (qs : List Qd) (sa : Option Addr) (sl sc : Nat) (es : List Ed) (_hd : (Lit.int .i64 dli).wf = true) (w : World) (hq : Qds w qa ql qc qs) (hs : Eds w sa sl sc es) (ht : Tabs w) :
    Calls Tryd.prog 6 #[.int .i64 dli, .slice qa ql qc, .slice sa sl sc] w fun e w' => e = .returned (.bool true) ∧ Below w.heap.size w w' := by
  have HT := hid ht
  have HQ := hid hq
  have HS := hid hs
  have un := Tryd.underlying27
  have unL := Tryd.underlying42
  have unE := Tryd.underlying60
  have ZQ := zeroQ
  have ZL := zeroL
  have qlen := hid hq.2.1.2.1
  have slen := hid hs.2.1.2.1
  clear ht hq hs
  obtain ⟨dn, hdn, rdn⟩ := and255 dli
  have DN := hid hdn
  clear hdn
  go_enter Tryd.func6, Tryd.ntmps6
  have e : Tryd.f6.body.getD .skip = kepX (kepC 20) (kepC 22) (kepC 24) (kepC 28) := by kernel_rfl
  refine (show Code.wp _ (Tryd.f6.body.getD .skip) _ _ _ from ?_)
  rw [e]
  have P20 := hid kep20
  have P22 := hid kep22
  have P24 := hid kep24
  have P28 := hid kep28
  generalize kepC 20 = C20 at *
  generalize kepC 22 = C22 at *
  generalize kepC 24 = C24 at *
  generalize kepC 28 = C28 at *
  clear e
  conv => arg 2; unfold kepX; arg 2; whnf
  simp only [putG, kepF, Option.getD_some, Option.getD_none]
  go_wp2_with (fail)
  refine (ehead_walk w HT.out).mono ?_
  rintro e w1 ⟨rfl, b1⟩
  have B1 := hid b1
  clear b1
  by_cases hl : ql ≤ 6
  case neg =>
    have t1 : decide (6 < ql) = true := decide_eq_true (by omega)
    have t2 : decide ((ql : Int) > 6) = true := decide_eq_true (by omega)
    have t3 : decide (6 < (ql : Int)) = true := decide_eq_true (by omega)
    go_wp2
    go_ret
    exact ⟨rfl, B1.out⟩
  have t1 : decide (6 < ql) = false := decide_eq_false (by omega)
  have t2 : decide ((ql : Int) > 6) = false := decide_eq_false (by omega)
  have t3 : decide (6 < (ql : Int)) = false := decide_eq_false (by omega)
  have HL := hid hl
  go_upto_region 6 with (fail)
  clear t1 t2 t3 hl rdn
  go_wp2_with (fail)
  refine (quotes_walk qa ql qc qs (by have := HL.out; omega) w1 (HQ.out.below B1.out)).mono ?_
  rintro e w3 ⟨tb, mb, rfl, t3, l1, l2, b3⟩
  have F3 := hid (Fit.quS qs 0 0 (fun _ => none) Fit.none)
  generalize (quS 0 qs (fun _ => none) 0).2 = nq at *
  generalize (quS 0 qs (fun _ => none) 0).1 = M0 at *
  have T3 := hid t3
  have L2 := hid l2
  have BB := hid b3
  have B3 := hid (bstep B1.out b3)
  have LW := hid (show w.heap.size ≤ w1.heap.size from B1.out.size)
  clear t3 l1 l2 b3
  go_wp2_with (fail)
  refine (enew_walk (dn : Int) (by omega) (by have := DN.out; omega) tb mb nq M0 w3 T3.out).mono ?_
  rintro e w4 ⟨rfl, s4, b4, z4⟩
  have S4 := hid (show Ses w.heap.size w w4 w3.heap.size tb mb (dn : Int) w4.heap.size (.slice none 0 0) [] M0 nq from ⟨s4, bstep B3.out b4, by have := B3.out.size; have := L2.out; have := LW.out; have := b4.size; omega⟩)
  generalize w3.heap.size = eb at *
  generalize w4.heap.size = B at *
  clear s4 b4 z4 B3 BB LW L2 T3
  go_upto_region 11 with (fail)
  refine wp_loop (fun A wr => ∃ k : Nat, A.defers = [] ∧ k ≤ sl ∧ k ≤ 60 ∧ KSo dn (.slice qa ql qc) (.slice sa sl sc) tb eb k A.tmps ∧ KepI w wr eb tb mb (dn : Int) B nq) (fun A _ => 60 - (intOf (tm A.tmps 10)).toNat) ⟨0, rfl, by omega, by omega, ⟨rfl, rfl, rfl, rfl, rfl, rfl, rfl⟩, _, [], M0, S4.out, Lk.nil, F3.out⟩ ?_
  · rintro ⟨T, df⟩ wr ⟨k, hd, hk, hk60, hT, v, L, M, hS, hL, hF⟩
    dsimp only at hd hT
    subst hd
    have E10 := hid hT.t10
    show Code.wp _ _ _ ⟨T, []⟩ wr
    rw [frameK hT.size, hT.t0, hT.t1, hT.t2, hT.t7, hT.t8, hT.t10]
    clear hT
    have S5 := hid hS
    have LL := hid hL
    have FM := hid hF
    clear hS hL hF S4 F3
    by_cases hlt : k < sl
    case neg =>
      have t1 : decide (k < sl) = false := decide_eq_false hlt
      go_wp2
      go_ret
      exact ⟨rfl, S5.out.b⟩
    by_cases h60 : k < 60
    case neg =>
      have t1 : decide (k < sl) = true := decide_eq_true hlt
      have t2 : decide (k < 60) = false := decide_eq_false h60
      have t3 : decide ((k : Int) < 60) = false := decide_eq_false (by omega)
      go_wp2
      go_ret
      exact ⟨rfl, S5.out.b⟩
    have t1 : decide (k < sl) = true := decide_eq_true hlt
    have t2 : decide (k < 60) = true := decide_eq_true h60
    have t3 : decide ((k : Int) < 60) = true := decide_eq_true (by omega)
    obtain ⟨b, off, x, ha, hxk, row, xok⟩ := (HS.out.below S5.out.b).get hlt
    subst ha
    have XOK := hid xok
    have xil := hid (infoEl xok)
    have xia := hid (infoEa xok)
    have xiz := hid (zE_as xok)
    have xio := hid (all_oneCell_toArray (Ed.one x))
    have ZE := zeroE
    have LT := hid hlt
    have L60 := hid h60
    clear hxk xok hlt h60 hk hk60
    go_upto_region 14 with (first | with_reducible refine wpList_ld b (off + k * 206) x.cells row unE xil rfl rfl ?_ | (with_reducible refine wpList_var x.cells.toArray _ ZE xia xiz xio rfl rfl ?_; intro w6 hI hb6))
    have S6 := hid (S5.out.below hb6)
    have R6 := hid (Held.new S5.out hI (Nat.le_refl _))
    obtain ⟨R, hR⟩ : ∃ R, R = wr.heap.size := ⟨_, rfl⟩
    rw [← hR] at R6 ⊢
    clear hI hb6 hR S5 row xil xia xiz xio ZE t1 t2 t3
    have c0 : w6.cell? ⟨R, 0, none⟩ = some (.int .i64 x.k) := x.hasK.one (row_range R6.out.1)
    go_upto_region 15 with (fail)
    rename_i K34 a34 K16 a16
    have A34 := hid a34
    have A16 := hid a16
    clear a34 a16
    have MID : ∀ (T : Array Value) (wz : World), KSl dn (.slice qa ql qc) (.slice (some ⟨b, off, none⟩) sl sc) tb eb k R T → KepI w wz eb tb mb dn B nq → K34 ⟨T, []⟩ wz := by
      intro T wz s hI
      have HI := hid hI
      refine A34.out _ _ ?_
      rw [frameK s.size, s.t0, s.t1, s.t2, s.t7, s.t8, s.t10, s.t11]
      clear s hI c0 A16 A34
      go_upto_region 35 with (fail)
      go_loopw [215] (fun x215 wr => ∃ i : Nat, i ≤ ql ∧ x215 = .int .i64 (i : Int) ∧ KepI w wr eb tb mb (dn : Int) B nq) (fun x215 _ => ql - (intOf x215).toNat)
      case atStart => exact ⟨0, by omega, rfl, HI.out⟩
      case round =>
        obtain ⟨i, hi, rfl, v2, L2, M2, hS2, hL2, hF2⟩ := hrel
        have SZ := hid hS2
        have LZ := hid hL2
        have FZ := hid hF2
        clear hS2 hL2 hF2 HI
        by_cases hlt : i < ql
        case neg =>
          have t1 : decide (i < ql) = false := decide_eq_false hlt
          have lt32 : k < 4294967296 := by have := L60.out; omega
          go_wp2_with (fail)
          go_roundw
          case rel => exact ⟨k + 1, trivial, by have := LT.out; omega, by have := L60.out; omega, ⟨rfl, rfl, rfl, rfl, rfl, rfl, by simp only [tm]; go_num⟩, _, _, _, SZ.out, LZ.out, FZ.out⟩
          case measure => show 60 - ((k : Int) + 1).toNat < 60 - ((k : Int)).toNat; have := L60.out; omega
        have t1 : decide (i < ql) = true := decide_eq_true hlt
        obtain ⟨nb, hnb, rb⟩ := wrap8 (i : Int)
        have NB := hid hnb
        have IT := hid hlt
        have bHn := bhx nb
        clear hnb hlt
        go_wp2_with (with_reducible refine wpList_mk1 bHn rfl ?_)
        refine (tget_walk tb mb nq M2 (hbx nb) (hbx_ok NB.out) wr SZ.out.s.t).mono ?_
        rintro e w14 ⟨rfl, b14⟩
        have S14 := hid (SZ.out.below b14)
        have qk := hid (getQ_ok SZ.out.s.t (hbx nb))
        have LE := hid (show ((M2 (hbx nb)).getD qz).used ≤ ((M2 (hbx nb)).getD qz).most from by
          cases hm : M2 (hbx nb) with
          | none => exact Nat.le_refl _
          | some q => exact FZ.out _ _ hm)
        generalize (M2 (hbx nb)).isSome = bo at *
        generalize (M2 (hbx nb)).getD qz = q at *
        have qia := hid (infoQa qk.out)
        have qiz := hid (zQ_as qk.out)
        have qio := hid (all_oneCell_toArray (Quo.one q))
        clear b14 SZ
        go_upto_region 38 with (first | (with_reducible refine wpList_var q.cells.toArray _ ZQ qia qiz qio rfl rfl ?_; intro w15 hI hb15))
        have S15 := hid (S14.out.below hb15)
        obtain ⟨G, hG⟩ : ∃ G, G = w14.heap.size := ⟨_, rfl⟩
        rw [← hG] at hI ⊢
        have c70 : w15.cell? ⟨G, 70, none⟩ = some (.int .u64 (q.used : Int)) := gen_cell (row_range hI) (Quo.get qk.out 6)
        have c65 : w15.cell? ⟨G, 65, none⟩ = some (.int .u64 (q.most : Int)) := gen_cell (row_range hI) (Quo.get qk.out 1)
        have tq : decide (q.most < q.used) = false := decide_eq_false (by have := LE.out; omega)
        have i32 : i < 4294967296 := by have := HL.out; have := IT.out; omega
        clear hI hb15 hG S14
        cases bo
        all_goals
          go_wp2_with (fail)
          go_roundw
          case rel => exact ⟨i + 1, by have := IT.out; omega, by go_num, _, _, _, S15.out, LZ.out, FZ.out⟩
          case measure => simp [intOf]; have := IT.out; omega
    have MIDH := hid MID
    clear MID
    clear A34
    have r6 := row_range R6.out.1
    have h172 : w6.cell? ⟨R, 172, none⟩ = some (.int .i64 x.line) := (Ed.hasLine XOK.out).one r6
    have h173 : w6.cell? ⟨R, 173, none⟩ = some (.int .i64 x.n) := (Ed.hasN XOK.out).one r6
    by_cases k0 : x.k = 0
    case pos =>
      have t1 : (x.k == 0) = true := by simp [k0]
      have h171 : w6.cell? ⟨R, 171, none⟩ = some (.int .i64 x.h) := (Ed.hasH XOK.out).one r6
      have ri : w6.rangeAt R 1 x.inn.cells := by have := x.hasIn.rng r6; exact this
      have ro : w6.rangeAt R 70 x.out.cells := by have := (Ed.hasOut XOK.out).rng r6; exact this
      have rn : w6.rangeAt R 139 (nums .u8 x.no) := by have := (Ed.hasNo XOK.out).rng r6; exact this
      have xin := hid (infoLl XOK.out.i)
      have xon := hid (infoLl XOK.out.o)
      have iln := hid (show (Tryd.prog.info? 27).map (·.size) = some (nums .u8 x.no).length by rw [nums_length, XOK.out.no.1]; exact infoH)
      go_wp2_with (fail)
      refine A16.out _ _ ?_
      clear t1 k0 A16 c0
      go_upto_region 16 with (fail)
      go_wp2_with (first | with_reducible refine wpList_ld R 1 x.inn.cells ri unL xin rfl rfl ?_ | with_reducible refine wpList_ld R 70 x.out.cells ro unL xon rfl rfl ?_ | with_reducible refine wpList_ld R 139 (nums .u8 x.no) rn un iln rfl rfl ?_)
      refine (hand_walk eb tb mb dn B v L M nq x.inn x.out XOK.out.i XOK.out.o x.no XOK.out.no x.h w6 S6.out.s).mono ?_
      rintro e w10 ⟨rfl, v1, s10, k10, y10⟩
      have R10 := hid (R6.out.call k10 y10)
      clear ri ro rn r6 h171 h172 h173
      by_cases hc : handC x.inn x.out x.no x.h dn L M = 0
      case neg =>
        have t2 : ((handC x.inn x.out x.no x.h dn L M : Int) != 0) = true := by simpa using hc
        unfold handL handM at s10
        rw [if_neg hc, if_neg hc] at s10
        have S10 := hid (S6.out.call s10 k10)
        clear s10 k10 y10 R10
        go_wp2_with (fail)
        refine MIDH.out _ _ ⟨rfl, rfl, rfl, rfl, rfl, rfl, rfl, rfl⟩ ⟨v1, L, M, S10.out, LL.out, FM.out⟩
      obtain ⟨q0, q, hq0, hu, kp⟩ := handC_ok hc
      rw [hc] at s10 ⊢
      rw [hu] at s10
      unfold handL handM at s10
      rw [if_pos rfl, if_pos rfl] at s10
      have S10 := hid (S6.out.call (show Shop w10 eb tb mb dn B v1 (L ++ [newF x.inn x.out x.no]) (updM M x.no q) nq from s10) k10)
      have KP := hid kp
      have L10 := hid (show Lk (L ++ [newF x.inn x.out x.no]) from LL.out.snoc kp.lock)
      have F10 := hid (show Fit (updM M x.no q) from FM.out.upd kp.fit)
      have MQ := hid (show updM M x.no q x.no = some q from by unfold updM; rw [if_pos rfl])
      clear s10 k10 y10 hc hq0 hu kp S6 LL FM
      generalize L ++ [newF x.inn x.out x.no] = L1 at *
      generalize updM M x.no q = M1 at *
      have rn : w10.rangeAt R 139 (nums .u8 x.no) := by have := (Ed.hasNo XOK.out).rng (row_range R10.out.1); exact this
      go_upto_region 17 with (fail)
      go_wp2_with (with_reducible refine wpList_ld R 139 (nums .u8 x.no) rn un iln rfl rfl ?_)
      refine (tget_walk tb mb nq M1 x.no XOK.out.no w10 S10.out.s.t).mono ?_
      rintro e w14 ⟨rfl, b14⟩
      have S14 := hid (S10.out.below b14)
      have R14 := hid (R10.out.below b14)
      have qk := hid (S10.out.s.t.ok _ _ MQ.out)
      rw [MQ.out]
      have qia := hid (infoQa qk.out)
      have qiz := hid (zQ_as qk.out)
      have qio := hid (all_oneCell_toArray (Quo.one q))
      clear b14 S10 R10 rn MQ
      go_upto_region 18 with (first | (with_reducible refine wpList_var q.cells.toArray _ ZQ qia qiz qio rfl rfl ?_; intro w15 hI hb15))
      have S15 := hid (S14.out.below hb15)
      have R15 := hid (R14.out.below hb15)
      have G15 := hid (Held.new S14.out hI (Nat.le_refl _))
      obtain ⟨G, hG⟩ : ∃ G, G = w14.heap.size := ⟨_, rfl⟩
      rw [← hG] at G15 ⊢
      clear hI hb15 hG S14 R14 qia qiz qio
      have r15 := row_range R15.out.1
      have q15 := row_range G15.out.1
      have c66 : w15.cell? ⟨G, 66, none⟩ = some (.int .i64 1) := by have := gen_cell (j := 66) (v := .int .i64 q.st) q15 (Quo.get qk.out 2); rwa [KP.out.st] at this
      have c69 : w15.cell? ⟨G, 69, none⟩ = some (.int .i64 q.til) := gen_cell q15 (Quo.get qk.out 5)
      have c64 : w15.cell? ⟨G, 64, none⟩ = some (.bool q.buy) := gen_cell q15 (Quo.get qk.out 0)
      have h171 : w15.cell? ⟨R, 171, none⟩ = some (.int .i64 x.h) := (Ed.hasH XOK.out).one r15
      have h138 : w15.cell? ⟨R, 138, none⟩ = some (.int .i64 x.out.o.til) := ((Ed.hasOut XOK.out).trans (x.out.hasO.trans (Ofr.hasTil XOK.out.o.o))).one r15
      have h69 : w15.cell? ⟨R, 69, none⟩ = some (.int .i64 x.inn.o.til) := (x.hasIn.trans (x.inn.hasO.trans (Ofr.hasTil XOK.out.i.o))).one r15
      have C64 := hid c64
      have u1 : decide (q.til < x.h) = false := decide_eq_false (by have := KP.out.til; omega)
      have u2 : decide (x.h > q.til) = false := u1
      have u3 : decide (x.out.o.til ≤ x.h) = false := decide_eq_false (by have := KP.out.out; omega)
      have u4 : IntKind.i64.wrap (x.inn.o.til - x.out.o.til) = x.inn.o.til - x.out.o.til := by have := KP.out.ah; have := KP.out.bh; rw [IntKind.wrap_i64]; omega
      have u5 : decide (x.inn.o.til - x.out.o.til < (dn : Int)) = false := decide_eq_false (by have := KP.out.tim; omega)
      clear c64 r15 q15
      go_wp2_with (fail)
      rename_i aK1
      have HK1 := hid aK1
      clear aK1 c66 c69 h171 h138 h69 u1 u2 u3 u4 u5
      refine wp_mono (P20.out dn (.slice qa ql qc) (.slice (some ⟨b, off, none⟩) sl sc) tb eb k R _ w15 (.pointer (some ⟨G, 0, none⟩)) x ⟨rfl, rfl, rfl, rfl, rfl, rfl, rfl, rfl⟩ XOK.out R15.out.1 rfl) ?_
      rintro e A w16 hh
      cases e with
      | normal =>
        obtain ⟨T16, df⟩ := A
        obtain ⟨hd, s16, e12, b16, X, Y, e14, e15, hX, hY, lX, lY, nXY⟩ := hh
        dsimp only at hd s16 e12 e14 e15
        subst hd
        have S16 := hid (S15.out.below b16)
        have HX := hid hX
        have HY := hid hY
        have GQ := hid (heap_keep G15.out.1 b16)
        have c64 := cell_keep b16 C64.out
        refine HK1.out _ _ ?_
        rw [frameK s16.size, s16.t0, s16.t1, s16.t2, s16.t7, s16.t8, s16.t10, s16.t11, e12, e14, e15]
        clear s16 e12 e14 e15 b16 hX hY lX lY nXY HK1 P20 S15 R15 G15 C64
        rcases KP.out.pay with ⟨p1, p2, p3, p4⟩ | ⟨p1, p2, p3, p4⟩
        · rw [p1] at c64
          go_wp2_with (fail)
          rename_i aK2
          have HK2 := hid aK2
          clear aK2 c64
          refine wp_mono (P22.out dn (.slice qa ql qc) (.slice (some ⟨b, off, none⟩) sl sc) tb eb k R _ w16 X Y G x.inn.o x.out.o q ⟨rfl, rfl, rfl, rfl, rfl, rfl, rfl, rfl⟩ rfl rfl rfl XOK.out.i.o XOK.out.o.o qk.out HX.out HY.out GQ.out p2 p3 p4) ?_
          rintro e A w17 hh
          cases e with
          | normal =>
            obtain ⟨T17, df⟩ := A
            obtain ⟨hd, s17, e9, b17⟩ := hh
            dsimp only at hd s17 e9
            subst hd
            have S17 := hid (S16.out.below b17)
            refine HK2.out _ _ ?_
            rw [frameK s17.size, s17.t0, s17.t1, s17.t2, s17.t7, s17.t8, s17.t10, s17.t11, e9]
            clear s17 e9 b17 HK2 S16
            go_wp2_with (fail)
            refine MIDH.out _ _ ⟨rfl, rfl, rfl, rfl, rfl, rfl, rfl, rfl⟩ ⟨v1, L1, M1, S17.out, L10.out, F10.out⟩
          | _ => exact hh.elim
        · rw [p1] at c64
          go_wp2_with (fail)
          rename_i aK2
          have HK2 := hid aK2
          clear aK2 c64
          refine wp_mono (P24.out dn (.slice qa ql qc) (.slice (some ⟨b, off, none⟩) sl sc) tb eb k R _ w16 X Y G x.inn.o x.out.o q ⟨rfl, rfl, rfl, rfl, rfl, rfl, rfl, rfl⟩ rfl rfl rfl XOK.out.i.o XOK.out.o.o qk.out HX.out HY.out GQ.out p2 p3 p4) ?_
          rintro e A w17 hh
          cases e with
          | normal =>
            obtain ⟨T17, df⟩ := A
            obtain ⟨hd, s17, e9, b17⟩ := hh
            dsimp only at hd s17 e9
            subst hd
            have S17 := hid (S16.out.below b17)
            refine HK2.out _ _ ?_
            rw [frameK s17.size, s17.t0, s17.t1, s17.t2, s17.t7, s17.t8, s17.t10, s17.t11, e9]
            clear s17 e9 b17 HK2 S16
            go_wp2_with (fail)
            refine MIDH.out _ _ ⟨rfl, rfl, rfl, rfl, rfl, rfl, rfl, rfl⟩ ⟨v1, L1, M1, S17.out, L10.out, F10.out⟩
          | _ => exact hh.elim
      | _ => exact hh.elim
    have t1 : (x.k == 0) = false := by simp [k0]
    go_wp2_with (fail)
    refine A16.out _ _ ?_
    clear t1 A16 c0 k0 P20 P22 P24
    go_upto_region 26 with (fail)
    by_cases k1 : x.k = 1
    case pos =>
      have t1 : (x.k == 1) = true := by simp [k1]
      have rn : w6.rangeAt R 174 (nums .u8 x.sec) := by have := (Ed.hasSec XOK.out).rng r6; exact this
      have iln := hid (show (Tryd.prog.info? 27).map (·.size) = some (nums .u8 x.sec).length by rw [nums_length, XOK.out.sec.1]; exact infoH)
      go_upto_region 27 with (fail)
      clear t1 k1 r6
      go_wp2_with (with_reducible refine wpList_ld R 174 (nums .u8 x.sec) rn un iln rfl rfl ?_)
      refine (settled_walk eb tb mb dn B v L M nq x.line x.n x.sec XOK.out.sec w6 (HT.out.below S6.out.b) S6.out.s).mono ?_
      rintro e w11 ⟨lg, kc, L', M', rfl, s11, k11, c11, lok⟩
      obtain ⟨l1, rfl, hk⟩ := setC_keep c11 LL.out
      have S11 := hid (S6.out.call s11 k11)
      have R11 := hid (R6.out.leg k11)
      have L1 := hid l1
      have HK := hid hk
      have LOK := hid lok
      have lia := hid (infoLa lok)
      have liz := hid (zL_as lok)
      have lio := hid (all_oneCell_toArray (Lg.one lg))
      clear s11 k11 c11 l1 hk lok S6 R6 LL rn h172 h173
      go_upto_region 28 with (first | (with_reducible refine wpList_var lg.cells.toArray _ ZL lia liz lio rfl rfl ?_; intro w12 hI hb12))
      rename_i aK1
      have HK1 := hid aK1
      have S12 := hid (S11.out.below hb12)
      have R12 := hid (R11.out.below hb12)
      have T12 := hid (HT.out.below S12.out.b)
      obtain ⟨G, hG⟩ : ∃ G, G = w11.heap.size := ⟨_, rfl⟩
      rw [← hG] at hI ⊢
      have HI := hid hI
      clear aK1 hb12 hG hI S11 R11
      refine wp_mono (P28.out dn (.slice qa ql qc) (.slice (some ⟨b, off, none⟩) sl sc) tb eb k R _ w12 kc G x lg ⟨rfl, rfl, rfl, rfl, rfl, rfl, rfl, rfl⟩ rfl rfl XOK.out LOK.out T12.out R12.out.1 HI.out HK.out) ?_
      rintro e A w17 hh
      cases e with
      | normal =>
        obtain ⟨T17, df⟩ := A
        obtain ⟨hd, s17, e9, b17⟩ := hh
        dsimp only at hd s17 e9
        subst hd
        have S17 := hid (S12.out.below b17)
        refine HK1.out _ _ ?_
        rw [frameK s17.size, s17.t0, s17.t1, s17.t2, s17.t7, s17.t8, s17.t10, s17.t11, e9]
        clear s17 e9 b17 HK1 S12
        go_wp2_with (fail)
        refine MIDH.out _ _ ⟨rfl, rfl, rfl, rfl, rfl, rfl, rfl, rfl⟩ ⟨v, L', M', S17.out, L1.out, FM.out⟩
      | _ => exact hh.elim
    have t1 : (x.k == 1) = false := by simp [k1]
    clear P28
    go_upto_region 30 with (fail)
    clear t1 k1
    by_cases k2 : x.k = 2
    case pos =>
      have t1 : (x.k == 2) = true := by simp [k2]
      go_upto_region 31 with (fail)
      clear t1 k2 r6
      go_wp2_with (fail)
      refine (given_walk eb tb mb dn B v L M nq x.line x.n w6 S6.out.s).mono ?_
      rintro e w11 ⟨lg, kc, L', M', rfl, s11, k11, c11, lok⟩
      obtain ⟨l1, f1⟩ := givC_keep c11 LL.out FM.out
      have S11 := hid (S6.out.call s11 k11)
      have L1 := hid l1
      have F1 := hid f1
      clear s11 k11 c11 l1 f1 lok S6 R6 LL FM h172 h173
      go_wp2_with (fail)
      refine MIDH.out _ _ ⟨rfl, rfl, rfl, rfl, rfl, rfl, rfl, rfl⟩ ⟨v, L', M', S11.out, L1.out, F1.out⟩
    have t1 : (x.k == 2) = false := by simp [k2]
    go_upto_region 32 with (fail)
    clear t1 k2
    by_cases k3 : x.k = 3
    case pos =>
      have t1 : (x.k == 3) = true := by simp [k3]
      go_upto_region 33 with (fail)
      clear t1 k3 r6
      go_wp2_with (fail)
      refine (close_walk eb tb mb dn B v L M nq x.line x.n w6 S6.out.s).mono ?_
      rintro e w11 ⟨kc, L', v', rfl, s11, k11, y11, c11⟩
      have S11 := hid (S6.out.call s11 k11)
      have L1 := hid (cloC_keep c11 LL.out)
      clear s11 k11 y11 c11 S6 R6 LL h172 h173
      go_wp2_with (fail)
      refine MIDH.out _ _ ⟨rfl, rfl, rfl, rfl, rfl, rfl, rfl, rfl⟩ ⟨v', L', M, S11.out, L1.out, FM.out⟩
    have t1 : (x.k == 3) = false := by simp [k3]
    go_wp2_with (fail)
    refine MIDH.out _ _ ⟨rfl, rfl, rfl, rfl, rfl, rfl, rfl, rfl⟩ ⟨v, L, M, S6.out, LL.out, FM.out⟩
end Go.Proofs.YthccjefhlmngbaaDoor

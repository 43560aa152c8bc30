/- The law's written: what a disk holds, by the page of this layer over layer 14. -/
import Derived.Test.YtnophelfpoldfaaGreatDoorGStg
import Derived.Test.YtnophelfpoldfaaGreatDoorStn
import Derived.Test.YtnophelfpoldfaaGreatDoorDecR
namespace Go.Proofs.YtnophelfpoldfaaGreatDoor
open Go.RowKit

theorem rd_rowH {w : World} {g n size : Nat} {cs : Array Value} {T : TypeId} {fr : Nat × Nat} (h : w.heap[g]? = some (.cells cs T fr)) (hn : cs.size = n * size) (hm : n ≤ maxLen) : Rd w size (some ⟨g, 0, none⟩) n n cs.toList := by
  refine ⟨by simpa using hn, Nat.le_refl _, hm, (fun e => nomatch e), g, 0, fun _ => rfl, fun j u hu => ?_⟩
  rw [Nat.zero_add]
  simp only [World.cell?, h]
  simpa using hu
theorem chs_one {w : World} {g : Nat} {l : LC} (h : w.heap[g]? = some (.cells #[.slice l.ka l.k.length l.kc, .slice l.va l.v.length l.vc, .bool l.g] 42 (0, 0))) (gd : l.good w) : Chs w (some ⟨g, 0, none⟩) 1 1 [l] :=
  ⟨rd_rowH (n := 1) (size := 3) h rfl (by decide), rfl, fun x hx => by simp only [List.mem_cons, List.not_mem_nil, or_false] at hx; subst hx; exact gd⟩
def WrR (w : World) (Z : Nat → Prop) (bodies : List (List Nat)) (e : Ending) (w' : World) : Prop :=
  Keep Z w w' ∧ match writS [] bodies with
  | none => e = .returned (.tuple #[.slice none 0 0, .bool false])
  | some ps => ∃ a n c al, e = .returned (.tuple #[.slice a n c, .bool true]) ∧ Prs w' a n c al ∧ al.map LP.pa = ps
/-- the inner loop's state -/
def WrJ (wd : World) (ps0 : List Pa) (prs : List Pr) (N0 j : Nat) (a0 : Option Addr) (n0 c0 : Nat) (wr : World) : Prop :=
  ∃ aL cs, Prs wr a0 n0 c0 aL ∧ aL.map LP.pa = doneP ps0 cs ∧ cs.length = j ∧ decC 0 prs = (decC (2 * j) (prs.drop (2 * j))).map (cs ++ ·) ∧ n0 ≤ N0 + j ∧ Below wd.heap.size wd wr
theorem WrJ.bad {wd wr : World} {ps0 : List Pa} {prs : List Pr} {N0 j : Nat} {a0 : Option Addr} {n0 c0 : Nat} {k w : Pr} (h : WrJ wd ps0 prs N0 j a0 n0 c0 wr) (hk : prs[2 * j]? = some k) (hw : prs[2 * j + 1]? = some w) (hb : pairBad (2 * j) k w = true) : decC 0 prs = none := by
  obtain ⟨aL, cs, _, _, _, h4, _⟩ := h
  rw [h4, decC_step hk hw, if_pos hb]; rfl
theorem WrJ.step {wd w' : World} {ps0 : List Pa} {prs : List Pr} {N0 j n0 : Nat} {aL : List LP} {cs : List Chg} {k w : Pr} (h2 : aL.map LP.pa = doneP ps0 cs) (h3 : cs.length = j) (h4 : decC 0 prs = (decC (2 * j) (prs.drop (2 * j))).map (cs ++ ·)) (h5 : n0 ≤ N0 + j) (hl : aL.length = n0)
    (hk : prs[2 * j]? = some k) (hw : prs[2 * j + 1]? = some w) (hb : pairBad (2 * j) k w = false) (l : LC) (hc : l.chg = pairC k w) {a' : Option Addr} {c' : Nat} (hp : Prs w' a' (doneL aL [l]).length c' (doneL aL [l])) (b : Below wd.heap.size wd w') : WrJ wd ps0 prs N0 (j + 1) a' (doneL aL [l]).length c' w' := by
  refine ⟨doneL aL [l], cs ++ [l.chg], hp, ?_, by simp [h3], ?_, ?_, b⟩
  · rw [doneL_pa, h2, doneP_append]; rfl
  · rw [h4, decC_step hk hw, if_neg (by rw [hb]; decide), Option.map_map, show 2 * (j + 1) = 2 * j + 2 by omega]
    congr 1
    funext x
    simp [hc]
  · have := doneL_len aL [l]
    simp only [List.length_cons, List.length_nil] at this
    omega
set_option maxRecDepth 100000 in
set_option maxHeartbeats 16000000 in
theorem written_walk {w : World} {Z : Nat → Prop} {db Bd half next turn : Nat} {sd : Value} {C : List (List Nat)} {chk st : List Nat} {rs : List (List Nat)} (JO : Calls Tryz.prog 8 #[.pointer (some ⟨db, 0, none⟩)] w (JOk w Z db Bd sd C half next turn chk st rs))
    (hlt : db < w.heap.size ∧ ∀ g, sd.ownBlock = some g → g < w.heap.size) (hh : half ≤ 1) (hst : st.length ≤ 1000000) (hrs : rs.length ≤ next) (hnx : next ≤ C.length / 2) (hl : ∀ r ∈ rs, r.length ≤ 1000000) :
    Calls Tryz.prog 11 #[.pointer (some ⟨db, 0, none⟩)] w (WrR w Z (st :: rs)) := by
  have JH := hid JO
  have SEP := hid (show Sep db sd w.heap.size from hlt)
  have HH := hid hh
  have ST := hid hst
  have RN := hid hrs
  have NX := hid hnx
  have RL := hid hl
  clear JO hlt hh hst hrs hnx hl
  go_enter Tryz.func11, Tryz.ntmps11
  go_wp2_with (fail)
  refine JH.out.mono ?_
  rintro e w1 ⟨jb, rv, rfl, j1, d1, k1⟩
  have J1 := hid j1
  have D1 := hid d1
  have K1 := hid k1
  have few := hid (show rs.length ≤ 2048 by have := d1.few; have := RN.out; have := NX.out; omega)
  clear j1 d1 k1
  go_upto_region 5 with (fail)
  refine newW ?_
  intro w3 H3 B3
  have J3 := hid (J1.out.below B3.out)
  have P3 := hid (show Prs w3 (some ⟨w1.heap.size, 0, none⟩) 0 0 [] from ⟨⟨by simp, Nat.le_refl _, Nat.zero_le _, (fun e => nomatch e), 0, 0, fun h => absurd h (by decide), by simp⟩, rfl, by simp⟩)
  have K3 := hid (K1.out.trans (Keep.of B3.out))
  clear H3 B3 J1 D1
  go_wp2_with (fail)
  refine (jstate_walk J3.out (by have := ST.out; omega)).mono ?_
  rintro e w4 ⟨v4, rfl, o4, b4⟩
  have A4 := hid (ByA.own o4 (by obtain ⟨sv, _, _, _, _, _, _, hb, _⟩ := J3.out.ex; exact hb))
  have B4 := hid b4
  obtain ⟨a4, c4, rfl, _⟩ := Rd.of_owns o4
  clear o4 b4
  have bw := (Below.refl w4.heap.size w4).alloc (Nat.le_refl _) (.cells #[.slice a4 st.length c4] 22)
  have B4w := hid (B4.out.trans (bw.mono B4.out.size))
  have OL := hid (own_new w4 #[.slice a4 st.length c4] 22 (size := 1) (n := 1) (B := w4.heap.size) rfl (Nat.le_refl _) (by decide))
  have A4w := hid (A4.out.below bw)
  clear bw
  go_wp2_with (fail)
  refine (jrecs_walk (J3.out.below B4w.out) (by have := few.out; omega) (fun r hr => by have := RL.out r hr; omega)).mono ?_
  rintro e w5 ⟨v5, vs, rfl, o5, r5, b5⟩
  have R5 := hid (JRs.cons (A4w.out.below b5) r5)
  have ON := hid r5.one
  obtain ⟨a5, c5, rfl, rd5⟩ := Rd.of_owns o5
  have RD5 := hid rd5
  have OL5 := hid (own_below OL.out b5)
  have B5 := hid (B4w.out.trans (b5.mono B4w.out.size))
  have L45 := hid (show w3.heap.size ≤ w4.heap.size ∧ w4.heap.size ≤ w5.heap.size from ⟨B4.out.size, Nat.le_trans (by simp) b5.size⟩)
  clear o5 r5 rd5 b5 OL A4 A4w B4 B4w
  obtain ⟨T, hT⟩ : ∃ T, T = 1 + rs.length := ⟨_, rfl⟩
  have TT := hid hT
  clear hT
  go_wp2_with (at_builtin; refine wpList_catK rfl _ _ 39 rfl tySs w4.heap.size OL5.out rfl rfl RD5.out ON.out (by have := few.out; omega) (by have := few.out; unfold maxLen; omega) L45.out.2 ?_; intro v6 w6 own6 k6; rw [← TT.out] at own6; obtain ⟨a6, c6, rfl, rd6⟩ := Rd.of_owns own6)
  have R6 := hid (R5.out.keep k6 (fun i _ e => own_noBy OL5.out (by decide) e))
  have B36 := hid (B5.out.trans (k6.below (fun i e => by simp only [Value.ownBlock, Option.some.injEq] at e; have := L45.out.1; omega) B5.out.size))
  have RD6 := hid rd6
  have P6 := hid (P3.out.below B36.out)
  have K6 := hid (K3.out.trans (Keep.of B36.out))
  obtain ⟨bds, hbd⟩ : ∃ bds, bds = st :: rs := ⟨_, rfl⟩
  have BD := hid hbd
  rw [← hbd] at R6 ⊢
  have BL := hid (show bds.length = T by rw [hbd, TT.out, List.length_cons]; omega)
  have B8 := hid (show ∀ b ∈ bds, b.length ≤ 1000000 by
    intro b hb
    rw [hbd] at hb
    rcases List.mem_cons.1 hb with rfl | hb
    · exact ST.out
    · exact RL.out b hb)
  clear own6 k6 rd6 hbd J3 P3 K3 R5 OL5 RD5 ON B36 B5 L45
  go_loopw [6, 28] (fun x6 x28 wr => ∃ (i : Nat) (a0 : Option Addr) (n0 c0 : Nat) (aL : List LP), .slice a0 n0 c0 = x6 ∧ i ≤ T ∧ x28 = .int .i64 (i : Int) ∧ Prs wr a0 n0 c0 aL ∧ writS [] bds = writS (aL.map LP.pa) (bds.drop i) ∧ n0 ≤ i * 128 ∧ Below w6.heap.size w6 wr) (fun _ x28 _ => T - (intOf x28).toNat)
  case atStart => exact ⟨0, _, _, _, [], rfl, Nat.zero_le _, rfl, P6.out, rfl, Nat.le_refl _, Below.refl _ _⟩
  case round =>
    obtain ⟨i, a0, n0, c0, aL, rfl, hi, rfl, hp, ho, hle, hb⟩ := hrel
    obtain ⟨wo, rfl⟩ : ∃ wo, wo = wr := ⟨_, rfl⟩
    have OS := hid ho
    have PR0 := hid hp
    have NL := hid hle
    have BO := hid hb
    clear ho hp hle hb
    by_cases hlt : i < T
    case neg =>
      obtain rfl : i = T := by omega
      have t1 : decide (i < i) = false := decide_eq_false (by omega)
      have t2 : decide ((i : Int) < (i : Int)) = false := decide_eq_false (by omega)
      have E := hid (show writS [] bds = some (aL.map LP.pa) by rw [OS.out, List.drop_eq_nil_of_le (by rw [BL.out]; exact Nat.le_refl _)]; rfl)
      clear hi hlt
      go_wp2_with (fail)
      go_ret2
      refine ⟨K6.out.trans (Keep.of BO.out), ?_⟩
      first | rw [E.out] | rw [← BD.out, E.out]
      exact ⟨a0, n0, c0, aL, rfl, PR0.out, rfl⟩
    have t1 : decide (i < T) = true := decide_eq_true hlt
    have t2 : decide ((i : Int) < (T : Int)) = true := decide_eq_true (by omega)
    have hib : i < bds.length := by rw [BL.out]; exact hlt
    obtain ⟨b, hb⟩ : ∃ b, bds[i]? = some b := ⟨_, List.getElem?_eq_getElem hib⟩
    obtain ⟨u, hu⟩ : ∃ u, (Value.slice a4 st.length c4 :: vs)[i]? = some u := ⟨_, List.getElem?_eq_getElem (by rw [R6.out.1]; exact hib)⟩
    have DR := hid (show bds.drop i = b :: bds.drop (i + 1) by
      obtain ⟨h, rfl⟩ := List.getElem?_eq_some_iff.1 hb
      exact List.drop_eq_getElem_cons h)
    obtain ⟨ab, nb, cb, rfl, s8, b8, _⟩ := ((R6.out.below BO.out).2 i u b hu hb)
    obtain ⟨_, _, _, _, pb, poff, ha, hc⟩ := RD6.out.below BO.out
    obtain rfl := ha (by omega)
    have cq := hc i _ hu
    have BB := hid (B8.out b (List.mem_of_getElem? hb))
    have HBL := hid s8.len
    have DW := hid (rdec_walk ab nb cb b b8 (by rw [← s8.len]; have := BB.out; omega) wo s8)
    obtain ⟨i1, hi1⟩ : ∃ i1, i1 = i + 1 := ⟨_, rfl⟩
    have r4 : IntKind.i64.wrap ((i : Int) + 1) = (i1 : Int) := by have := few.out; have := TT.out; rw [IntKind.wrap_i64]; omega
    have I1 := hid hi1
    have LT := hid hlt
    clear hi hlt hib hb hu s8 b8 ha hc hi1
    go_wp2_with (fail)
    refine DW.out.mono ?_
    rintro e wd ⟨v, ls, rfl, hr, hpr, hl, hbd, _, _⟩
    obtain ⟨la, lc, rfl, rcs⟩ := hr
    have RC := hid rcs
    have PRS := hid hpr
    have BDW := hid hbd
    have LL := hid hl
    have P0 := hid (PR0.out.below hbd)
    obtain ⟨er, her⟩ : ∃ er, er = (decS b).2 := ⟨_, rfl⟩
    have ER := hid her
    rw [← her]
    obtain ⟨N, hN⟩ : ∃ N, N = ls.length := ⟨_, rfl⟩
    have LN := hid hN
    rw [← hN]
    have KW := hid (K6.out.trans (Keep.of (BO.out.trans (BDW.out.mono BO.out.size))))
    have NOB := hid (show decB b = none → writS [] bds = none from fun h => by rw [OS.out, DR.out, writS, h])
    clear rcs hpr hbd hl her hN DW cq PR0
    by_cases h0 : er = 0
    case neg =>
      have z1 : ((er : Int) == 0) = false := beq_eq_false_iff_ne.2 (by omega)
      have z2 : ¬ (er : Int) = 0 := by omega
      have D := hid (NOB.out (by unfold decB; rw [if_pos (.inl (by rw [← ER.out]; exact h0))]))
      clear h0
      go_wp2_with (fail)
      go_ret2
      refine ⟨KW.out, ?_⟩
      first | rw [D.out] | rw [← BD.out, D.out]
      rfl
    subst h0
    by_cases hev : N % 2 = 0
    case neg =>
      have z3 : (((N : Int) % 2) == 0) = false := beq_eq_false_iff_ne.2 (by omega)
      have z4 : (((N : Int).tmod 2) == 0) = false := beq_eq_false_iff_ne.2 (by rw [Int.tmod_eq_emod_of_nonneg (by omega)]; omega)
      have D := hid (NOB.out (by unfold decB; rw [if_pos (.inr (by rw [← PRS.out, List.length_map, ← LN.out]; exact hev))]))
      clear hev
      go_wp2_with (fail)
      go_ret2
      refine ⟨KW.out, ?_⟩
      first | rw [D.out] | rw [← BD.out, D.out]
      rfl
    have z3 : (((N : Int) % 2) == 0) = true := beq_iff_eq.2 (by omega)
    have z4 : (((N : Int).tmod 2) == 0) = true := beq_iff_eq.2 (by rw [Int.tmod_eq_emod_of_nonneg (by omega)]; omega)
    have z5 : ((N : Int) % 2 != 0) = false := by rw [bne, z3]; rfl
    have EV := hid hev
    have DB := hid (show decB b = decC 0 (ls.map LR.pr) by unfold decB; rw [if_neg (by rw [← ER.out, ← PRS.out, List.length_map, ← LN.out]; omega), PRS.out])
    clear hev
    go_wp2_with (fail)
    go_loopw [6, 11] (fun x6 x11 wr => ∃ (j q : Nat) (a1 : Option Addr) (n1 c1 : Nat), .slice a1 n1 c1 = x6 ∧ q = 2 * j ∧ q ≤ N ∧ x11 = .int .i64 (q : Int) ∧ WrJ wd (aL.map LP.pa) (ls.map LR.pr) n0 j a1 n1 c1 wr) (fun _ x11 _ => N - (intOf x11).toNat)
    case atStart => exact ⟨0, 0, _, _, _, rfl, rfl, Nat.zero_le _, rfl, aL, [], P0.out, rfl, rfl, by simp, Nat.le_refl _, Below.refl _ _⟩
    case round =>
      obtain ⟨j, q, a1, n1, c1, rfl, hq, hqN, rfl, hw⟩ := hrel
      have WI := hid hw
      have Q := hid hq
      have BWI := hid (show Below wd.heap.size wd wr by obtain ⟨_, _, _, _, _, _, _, h⟩ := hw; exact h)
      clear hw hq
      by_cases hlt : q < N
      case neg =>
        obtain rfl : q = N := by omega
        have t1 : decide (q < q) = false := decide_eq_false (by omega)
        have t2 : decide ((q : Int) < (q : Int)) = false := decide_eq_false (by omega)
        obtain ⟨aL1, cs, h1, h2, h3, h4, h5, h6⟩ := WI.out
        rw [List.drop_eq_nil_of_le (by rw [List.length_map, ← LN.out]; have := Q.out; omega)] at h4
        have D := hid (show decB b = some cs by rw [DB.out, h4]; simp [decC])
        have P1 := hid h1
        have E1 := hid h2
        have L1 := hid (show n1 ≤ i1 * 128 by have := NL.out; have := LL.out; have := LN.out; have := Q.out; have := I1.out; omega)
        clear hqN hlt h1 h2 h3 h4 h5 h6 WI
        go_wp2_with (fail)
        go_roundw
        case rel => exact ⟨i1, a1, n1, c1, aL1, rfl, by have := I1.out; have := LT.out; omega, rfl, P1.out, by rw [OS.out, DR.out, writS, D.out, E1.out, I1.out], L1.out, BO.out.trans ((BDW.out.trans (BWI.out.mono BDW.out.size)).mono BO.out.size)⟩
        case measure => simp [intOf]; have := I1.out; have := LT.out; omega
      have t1 : decide (q < N) = true := decide_eq_true hlt
      have t2 : decide ((q : Int) < (N : Int)) = true := decide_eq_true (by omega)
      obtain ⟨q3, hq3⟩ : ∃ q3, q3 = q + 1 := ⟨_, rfl⟩
      have NN := hid (show N ≤ 256 by rw [LN.out]; exact LL.out)
      have e3 : IntKind.i64.wrap ((q : Int) + 1) = (q3 : Int) := by have := NN.out; rw [IntKind.wrap_i64]; omega
      have r7 : IntKind.u64.wrap (q : Int) = (q : Int) := by have := NN.out; simp [IntKind.wrap, IntKind.signed, IntKind.bits]; omega
      have r8 : IntKind.u64.wrap (q3 : Int) = (q3 : Int) := by have := NN.out; simp [IntKind.wrap, IntKind.signed, IntKind.bits]; omega
      have lt3 : q3 < N := by have := EV.out; have := Q.out; omega
      have t6 : decide (q3 < N) = true := decide_eq_true lt3
      have t7 : decide ((q3 : Int) < (N : Int)) = true := decide_eq_true (by omega)
      have t8 : (q3 : Int) < (N : Int) := by omega
      have t9 : ¬ ((N : Int) ≤ (q3 : Int)) := by omega
      have ta : (q : Int) < (N : Int) := by omega
      have tb : ¬ ((N : Int) ≤ (q : Int)) := by omega
      obtain ⟨kr, hkr⟩ := get_some LN.out.symm hlt
      obtain ⟨vr, hvr⟩ := get_some LN.out.symm lt3
      have KP := hid (show (ls.map LR.pr)[2 * j]? = some kr.pr by rw [← Q.out]; exact pr_get hkr)
      have VP := hid (show (ls.map LR.pr)[2 * j + 1]? = some vr.pr by rw [← Q.out, ← hq3]; exact pr_get hvr)
      have GK := hid (RC.out.2.2 kr (List.mem_of_getElem? hkr))
      have GV := hid (RC.out.2.2 vr (List.mem_of_getElem? hvr))
      obtain ⟨rb, roff, rfl, k0, k1, _⟩ := (RC.out.below BWI.out).cells hkr
      obtain ⟨b', off', eb, v0, v1, _⟩ := (RC.out.below BWI.out).cells hvr
      simp only [Option.some.injEq, Addr.mk.injEq, and_true] at eb
      obtain ⟨rfl, rfl⟩ := eb
      obtain ⟨kt, ka, kc, kv⟩ := kr
      obtain ⟨vt, va, vc, vv⟩ := vr
      have k0' : wr.cell? ⟨rb, roff + q * 2, none⟩ = some (.int .u64 (kt : Int)) := k0
      have k1' : wr.cell? ⟨rb, roff + q * 2 + 1, none⟩ = some (.slice ka kv.length kc) := k1
      have v0' : wr.cell? ⟨rb, roff + q3 * 2, none⟩ = some (.int .u64 (vt : Int)) := v0
      have v1' : wr.cell? ⟨rb, roff + q3 * 2 + 1, none⟩ = some (.slice va vv.length vc) := v1
      have Q3 := hid hq3
      have LTQ := hid hlt
      clear k0 k1 v0 v1 hkr hvr hq3 hqN hlt lt3
      have KF := hid (KW.out.trans (Keep.of BWI.out))
      by_cases hk : kt = q
      case neg =>
        have q1 : ((kt : Int) == (q : Int)) = false := beq_eq_false_iff_ne.2 (by omega)
        have q1' : ¬ (kt : Int) = (q : Int) := by omega
        have D := hid (NOB.out (by rw [DB.out]; exact WI.out.bad KP.out VP.out (pairBad_iff.2 (.inl (by rw [← Q.out]; exact hk)))))
        clear hk
        go_wp2_with (fail)
        go_ret2
        refine ⟨KF.out, ?_⟩
        first | rw [D.out] | rw [← BD.out, D.out]
        rfl
      subst hk
      by_cases hv : vt = q3
      case neg =>
        have q2 : ((vt : Int) == (q3 : Int)) = false := beq_eq_false_iff_ne.2 (by omega)
        have q2' : ¬ (vt : Int) = (q3 : Int) := by omega
        have D := hid (NOB.out (by rw [DB.out]; exact WI.out.bad KP.out VP.out (pairBad_iff.2 (.inr (.inl (by rw [← Q.out, ← Q3.out]; exact hv))))))
        clear hv
        go_wp2_with (fail)
        go_ret2
        refine ⟨KF.out, ?_⟩
        first | rw [D.out] | rw [← BD.out, D.out]
        rfl
      subst hv
      by_cases hz : vv.length = 0
      case pos =>
        have D := hid (NOB.out (by rw [DB.out]; exact WI.out.bad KP.out VP.out (pairBad_iff.2 (.inr (.inr (.inl hz))))))
        obtain rfl := List.eq_nil_of_length_eq_zero hz
        clear hz
        go_wp2_with (fail)
        go_ret2
        refine ⟨KF.out, ?_⟩
        first | rw [D.out] | rw [← BD.out, D.out]
        rfl
      have hp : 0 < vv.length := by omega
      obtain ⟨vn, hvn⟩ : ∃ vn, vn = vv.length := ⟨_, rfl⟩
      have VN := hid hvn
      rw [← hvn] at v1'
      have q3z : ((vn : Int) == 0) = false := beq_eq_false_iff_ne.2 (by omega)
      have q3' : ¬ (vn : Int) = 0 := by omega
      have q3'' : ¬ vn = 0 := by omega
      have q4 : decide (0 < vn) = true := decide_eq_true (by omega)
      have q4' : (0 : Int) < (vn : Int) := by omega
      have q4'' : ¬ ((vn : Int) ≤ 0) := by omega
      obtain ⟨vb, vo, hva, hcl⟩ := (GV.out.2.1).opened
      obtain rfl := hva hp
      have d3 := cell_keep BWI.out (hcl 0 hp)
      obtain ⟨hd, hhd⟩ : ∃ hd, hd = vv.getD 0 0 := ⟨_, rfl⟩
      rw [← hhd, Nat.add_zero] at d3
      have HD := hid hhd
      have ZL := hid hp
      clear hz hp hva hcl hhd hvn
      by_cases h1 : 1 < hd
      case pos =>
        have q5 : decide (1 < hd) = true := decide_eq_true h1
        have q5' : decide ((1 : Int) < (hd : Int)) = true := decide_eq_true (by omega)
        have D := hid (NOB.out (by rw [DB.out]; exact WI.out.bad KP.out VP.out (pairBad_iff.2 (.inr (.inr (.inr (.inl (by rw [HD.out] at h1; exact h1))))))))
        clear h1
        go_wp2_with (fail)
        go_ret2
        refine ⟨KF.out, ?_⟩
        first | rw [D.out] | rw [← BD.out, D.out]
        rfl
      obtain ⟨vo', DS, DQ⟩ := run_dropD (M := 1) (m := 1) rfl GV.out.2.1 ZL.out
      obtain ⟨yv, hyv⟩ : ∃ yv, yv = vv.drop 1 := ⟨_, rfl⟩
      have YL : vv.length - 1 = yv.length := by rw [hyv, List.length_drop]
      dsimp only at DQ DS
      rw [YL] at DQ DS
      rw [← hyv] at DS
      rw [← VN.out] at DQ
      have DSH := hid DS
      have YV := hid hyv
      clear DS YL hyv
      have SLC := hid (show ∀ g, LC.good wd ⟨ka, kc, kv, some ⟨vb, vo', none⟩, vc - 1, yv, g⟩ from fun g => ⟨GK.out.2.1, GK.out.2.2.1, DSH.out, fun d hd => GV.out.2.2.1 d (by rw [YV.out] at hd; exact List.mem_of_mem_drop hd)⟩)
      by_cases h0 : hd = 0
      case pos =>
        subst h0
        by_cases h2 : 1 < vn
        case pos =>
          have q7 : decide (1 < vn) = true := decide_eq_true h2
          have q7' : decide ((1 : Int) < (vn : Int)) = true := decide_eq_true (by omega)
          have D := hid (NOB.out (by rw [DB.out]; exact WI.out.bad KP.out VP.out (pairBad_iff.2 (.inr (.inr (.inr (.inr ⟨HD.out.symm, by rw [VN.out] at h2; exact h2⟩)))))))
          clear h1 h2
          go_wp2_with (fail)
          go_ret2
          refine ⟨KF.out, ?_⟩
          first | rw [D.out] | rw [← BD.out, D.out]
          rfl
        have q7 : decide (1 < vn) = false := decide_eq_false h2
        have q7' : decide ((1 : Int) < (vn : Int)) = false := decide_eq_false (by omega)
        have PB := hid (show pairBad (2 * j) (LR.pr ⟨kt, ka, kc, kv⟩) (LR.pr ⟨vt, some ⟨vb, vo, none⟩, vc, vv⟩) = false from
          pairBad_no Q.out (by rw [← Q.out]; exact Q3.out) (by have := ZL.out; show vv.length ≠ 0; omega) (by rw [show (LR.pr ⟨vt, some ⟨vb, vo, none⟩, vc, vv⟩).2.getD 0 0 = 0 from HD.out.symm]; decide) (fun h => h2 (by rw [VN.out]; exact h.2)))
        clear h1 h2
        obtain ⟨aL1, cs, h1, h2, h3, h4, h5, h6⟩ := WI.out
        have P1 := hid h1
        have E1 := hid h2
        have E3 := hid h3
        have E4 := hid h4
        have E5 := hid h5
        have N1 := hid (show n1 ≤ 1000000 by have := NL.out; have := LT.out; have := TT.out; have := few.out; have := LTQ.out; have := NN.out; have := Q.out; omega)
        clear h1 h2 h3 h4 h5 h6
        go_upto_region 17 with (fail)
        refine wp_region_held_drew (S := fun w' => Below wr.heap.size wr w') (by kernel_rfl) ((Below.refl _ _).drew) (fun hHeld => ?_)
        try simp only [List.size_toArray, List.length_cons, List.length_nil, Nat.reduceAdd, Array.replicate_succ, Array.replicate_zero, List.push_toArray, List.nil_append, List.cons_append]
        refine wpAnyH_take (i := 0) (oi := { dst := some 99, op := Op.move (Operand.tmp 6), type := 31, pos := "law.go:105", after := #[], guard := none }) (v := (.slice a1 n1 c1)) rfl (by kernel_rfl) (by kernel_rfl) (by kernel_rfl) (fun _ _ _ h => h) (Or.inl ⟨by rfl, fun w _ => by go_simp⟩) hHeld ?_
        (try simp only [Act.put, List.setIfInBounds_toArray, List.set_cons_zero, List.set_cons_succ])
        refine wpAnyH_take (i := 1) (oi := { dst := some 100, op := Op.move (Operand.tmp 9), type := 73, pos := "law.go:105", after := #[], guard := none }) (v := ?v1001) rfl (by kernel_rfl) (by kernel_rfl) (by kernel_rfl) (fun _ _ _ h => h) (Or.inl ⟨by rfl, ?hy1001⟩) hHeld ?_
        case hy1001 => (intro w hSw; (try dsimp only at hSw); go_simp; (try with_reducible rfl))
        (try simp only [Act.put, List.setIfInBounds_toArray, List.set_cons_zero, List.set_cons_succ])
        refine wpAnyH_take (i := 2) (oi := { dst := some 101, op := Op.move (Operand.tmp 11), type := 3, pos := "law.go:105", after := #[], guard := none }) (v := ?v1002) rfl (by kernel_rfl) (by kernel_rfl) (by kernel_rfl) (fun _ _ _ h => h) (Or.inl ⟨by rfl, ?hy1002⟩) hHeld ?_
        case hy1002 => (intro w hSw; (try dsimp only at hSw); go_simp; (try with_reducible rfl))
        (try simp only [Act.put, List.setIfInBounds_toArray, List.set_cons_zero, List.set_cons_succ])
        refine wpAnyH_take (i := 3) (oi := { dst := some 102, op := Op.indexAddr 73 (Operand.tmp 100) (Operand.tmp 101), type := 0, pos := "law.go:105", after := #[{ on := 1, ground := Ground.data }, { on := 2, ground := Ground.data }], guard := none }) (v := (.pointer (some ⟨rb, roff + kt * 2, none⟩))) rfl (by kernel_rfl) (by kernel_rfl) (by kernel_rfl) (fun _ _ _ h => h) (Or.inl ⟨by rfl, fun w _ => by go_simp⟩) hHeld ?_
        (try simp only [Act.put, List.setIfInBounds_toArray, List.set_cons_zero, List.set_cons_succ])
        refine wpAnyH_take (i := 4) (oi := { dst := some 103, op := Op.fieldAddr 77 (Operand.tmp 102) 1, type := 0, pos := "law.go:105", after := #[{ on := 3, ground := Ground.data }], guard := none }) (v := (.pointer (some ⟨rb, roff + kt * 2 + 1, none⟩))) rfl (by kernel_rfl) (by kernel_rfl) (by kernel_rfl) (fun _ _ _ h => h) (Or.inl ⟨by rfl, fun w _ => by go_simp⟩) hHeld ?_
        (try simp only [Act.put, List.setIfInBounds_toArray, List.set_cons_zero, List.set_cons_succ])
        refine wpAnyH_take (i := 5) (oi := { dst := some 104, op := Op.load 22 (Operand.tmp 103), type := 22, pos := "law.go:105", after := #[{ on := 4, ground := Ground.data }], guard := none }) (v := (.slice ka kv.length kc)) rfl (by kernel_rfl) (by kernel_rfl) (by kernel_rfl) (fun _ _ _ h => h) (Or.inl ⟨by rfl, fun w h => by have c9 := cell_keep h k1'; go_simp⟩) hHeld ?_
        (try simp only [Act.put, List.setIfInBounds_toArray, List.set_cons_zero, List.set_cons_succ])
        refine wpAnyH_take (i := 6) (oi := { dst := some 105, op := Op.move (Operand.tmp 12), type := 22, pos := "law.go:105", after := #[], guard := none }) (v := ?v1003) rfl (by kernel_rfl) (by kernel_rfl) (by kernel_rfl) (fun _ _ _ h => h) (Or.inl ⟨by rfl, ?hy1003⟩) hHeld ?_
        case hy1003 => (intro w hSw; (try dsimp only at hSw); go_simp; (try with_reducible rfl))
        (try simp only [Act.put, List.setIfInBounds_toArray, List.set_cons_zero, List.set_cons_succ])
        refine wpAnyH_take (i := 7) (oi := { dst := some 106, op := Op.slice 22 (Operand.tmp 105) (some (Operand.const (Value.int IntKind.i64 1))) none none, type := 22, pos := "law.go:105", after := #[{ on := 6, ground := Ground.data }], guard := none }) (v := (.slice (some ⟨vb, vo', none⟩) yv.length (vc - 1))) rfl (by kernel_rfl) (by kernel_rfl) (by kernel_rfl) (fun _ _ _ h => h) (Or.inl ⟨by rfl, fun w _ => by have c9 := DQ w; go_simp⟩) hHeld ?_
        (try simp only [Act.put, List.setIfInBounds_toArray, List.set_cons_zero, List.set_cons_succ])
        refine wpAnyH_take (i := 8) (oi := { dst := some 107, op := Op.move (Operand.tmp 12), type := 22, pos := "law.go:105", after := #[], guard := none }) (v := ?v1004) rfl (by kernel_rfl) (by kernel_rfl) (by kernel_rfl) (fun _ _ _ h => h) (Or.inl ⟨by rfl, ?hy1004⟩) hHeld ?_
        case hy1004 => (intro w hSw; (try dsimp only at hSw); go_simp; (try with_reducible rfl))
        (try simp only [Act.put, List.setIfInBounds_toArray, List.set_cons_zero, List.set_cons_succ])
        refine wpAnyH_take (i := 9) (oi := { dst := some 108, op := Op.indexAddr 22 (Operand.tmp 107) (Operand.const (Value.int IntKind.i64 0)), type := 0, pos := "law.go:105", after := #[{ on := 8, ground := Ground.data }], guard := none }) (v := (.pointer (some ⟨vb, vo, none⟩))) rfl (by kernel_rfl) (by kernel_rfl) (by kernel_rfl) (fun _ _ _ h => h) (Or.inl ⟨by rfl, fun w _ => by go_simp⟩) hHeld ?_
        (try simp only [Act.put, List.setIfInBounds_toArray, List.set_cons_zero, List.set_cons_succ])
        refine wpAnyH_take (i := 10) (oi := { dst := some 109, op := Op.load 5 (Operand.tmp 108), type := 5, pos := "law.go:105", after := #[{ on := 9, ground := Ground.data }], guard := none }) (v := (.int .u8 0)) rfl (by kernel_rfl) (by kernel_rfl) (by kernel_rfl) (fun _ _ _ h => h) (Or.inl ⟨by rfl, fun w h => by have c9 := cell_keep h d3; go_simp⟩) hHeld ?_
        (try simp only [Act.put, List.setIfInBounds_toArray, List.set_cons_zero, List.set_cons_succ])
        refine wpAnyH_take (i := 11) (oi := { dst := some 110, op := Op.binOp BinOp.eql 5 (Operand.tmp 109) (Operand.const (Value.int IntKind.u8 0)) 5, type := 4, pos := "law.go:105", after := #[{ on := 10, ground := Ground.data }], guard := none }) (v := (.bool true)) rfl (by kernel_rfl) (by kernel_rfl) (by kernel_rfl) (fun _ _ _ h => h) (Or.inl ⟨by rfl, fun w _ => by go_simp⟩) hHeld ?_
        (try simp only [Act.put, List.setIfInBounds_toArray, List.set_cons_zero, List.set_cons_succ])
        refine wpAnyH_take (i := 12) (oi := { dst := some 111, op := Op.build 42 #[(0, Operand.tmp 104), (1, Operand.tmp 106), (2, Operand.tmp 110)], type := 42, pos := "law.go:105", after := #[{ on := 5, ground := Ground.data }, { on := 7, ground := Ground.data }, { on := 11, ground := Ground.data }], guard := none }) (v := (.agg #[.slice ka kv.length kc, .slice (some ⟨vb, vo', none⟩) yv.length (vc - 1), .bool true])) rfl (by kernel_rfl) (by kernel_rfl) (by kernel_rfl) (fun _ _ _ h => h) (Or.inl ⟨by rfl, fun w _ => by go_simp⟩) hHeld ?_
        (try simp only [Act.put, List.setIfInBounds_toArray, List.set_cons_zero, List.set_cons_succ])
        refine wpAnyH_ready (rs := [13]) (by kernel_rfl) (by simp) ?_
        refine AllReadyH.cons (o := { dst := some 112, op := Op.buildSlice 40 1 #[(0, Operand.tmp 111)], type := 40, pos := "law.go:105", after := #[{ on := 12, ground := Ground.data }], guard := none }) rfl (fun K hK => ?_) ?_
        refine wp_lit1 _ _ _ rfl (cells := #[.slice ka kv.length kc, .slice (some ⟨vb, vo', none⟩) yv.length (vc - 1), .bool true]) rfl Tryz.underlying40 (size := 3) (by kernel_rfl) (by kernel_rfl) rfl (by decide) (by decide) ?_; (first | refine newZd ?_ | refine newZ ?_); intro wq HQ BQ; have BQ := hid (show Below wr.heap.size wr wq from by first | exact BQ.out | exact (Below.refl wr.heap.size wr).drew.trans BQ.out)
        refine hK.out _ _ (BQ.out) (fun hHeld => ?_)
        clear hK K
        (try simp only [List.setIfInBounds_toArray, List.set_cons_zero, List.set_cons_succ])
        refine wpAnyH_ready (rs := [14]) (by kernel_rfl) (by simp) ?_
        refine AllReadyH.cons (o := { dst := some 113, op := Op.call { callee := Callee.value (Operand.func 20), args := #[Operand.tmp 99, Operand.tmp 112], argTypes := #[31, 40] }, type := 31, pos := "law.go:105", after := #[{ on := 0, ground := Ground.data }, { on := 13, ground := Ground.data }], guard := none }) rfl (fun K hK => ?_) ?_
        go_simp; refine (done_walk _ n1 c1 aL1 _ 1 1 [⟨ka, kc, kv, some ⟨vb, vo', none⟩, vc - 1, yv, true⟩] _ (P1.out.below BQ.out) (chs_one HQ.out ((SLC.out true).below (BWI.out.trans (BQ.out.mono BWI.out.size)))) N1.out (by decide)).mono ?_; rintro e w7 ⟨a7, c7, rfl, hp7, hb7⟩; have P7 := hid hp7; have B7 := hid hb7; clear hp7 hb7
        refine hK.out _ _ (hHeld.trans (B7.out.mono hHeld.size)) (fun hHeld => ?_)
        clear hK K
        (try simp only [List.setIfInBounds_toArray, List.set_cons_zero, List.set_cons_succ])
        refine wpAnyH_take (i := 15) (oi := { dst := some 6, op := Op.assign (Operand.tmp 113), type := 31, pos := "law.go:105", after := #[{ on := 14, ground := Ground.data }, { on := 14, ground := Ground.chain }, { on := 0, ground := Ground.phase }, { on := 1, ground := Ground.phase }, { on := 2, ground := Ground.phase }, { on := 3, ground := Ground.phase }, { on := 4, ground := Ground.phase }, { on := 5, ground := Ground.phase }, { on := 6, ground := Ground.phase }, { on := 7, ground := Ground.phase }, { on := 8, ground := Ground.phase }, { on := 9, ground := Ground.phase }, { on := 10, ground := Ground.phase }, { on := 11, ground := Ground.phase }, { on := 12, ground := Ground.phase }, { on := 13, ground := Ground.phase }, { on := 14, ground := Ground.phase }], guard := none }) (v := (.slice a7 (doneL aL1 [⟨ka, kc, kv, some ⟨vb, vo', none⟩, vc - 1, yv, true⟩]).length c7)) rfl (by kernel_rfl) (by kernel_rfl) (by kernel_rfl) (fun _ _ _ h => h) (Or.inl ⟨by rfl, fun w _ => by go_simp⟩) hHeld ?_
        (try simp only [Act.put, List.setIfInBounds_toArray, List.set_cons_zero, List.set_cons_succ])
        refine wpAnyH_done (by kernel_rfl) ?_ _
        rotate_left
        exact AllReadyH.nil
        exact AllReadyH.nil
        have BW7 := hid (show Below wd.heap.size wd w7 from BWI.out.trans ((BQ.out.trans (B7.out.mono BQ.out.size)).mono BWI.out.size))
        have E7 := hid (WrJ.step E1.out E3.out E4.out E5.out P1.out.2.1 KP.out VP.out PB.out ⟨ka, kc, kv, some ⟨vb, vo', none⟩, vc - 1, yv, true⟩ (by rw [YV.out]; show Chg.mk kv (vv.drop 1) true = Chg.mk kv (vv.drop 1) (decide (vv.getD 0 0 = 0)); rw [← HD.out]; rfl) P7.out BW7.out)
        obtain ⟨q5, hq5⟩ : ∃ q5, q5 = 2 * (j + 1) := ⟨_, rfl⟩
        have Q5 := hid hq5
        have e5 : IntKind.i64.wrap ((kt : Int) + 2) = (q5 : Int) := by have := Q.out; have := NN.out; have := LTQ.out; rw [IntKind.wrap_i64]; omega
        clear P7 B7 PB hq5
        go_wp2_with (fail)
        go_roundw
        case rel => exact ⟨j + 1, q5, _, _, _, rfl, Q5.out, by have := Q.out; have := LTQ.out; have := EV.out; have := Q5.out; omega, rfl, E7.out⟩
        case measure => simp [intOf]; have := Q.out; have := LTQ.out; have := Q5.out; omega
      obtain rfl : hd = 1 := by omega
      have PB := hid (show pairBad (2 * j) (LR.pr ⟨kt, ka, kc, kv⟩) (LR.pr ⟨vt, some ⟨vb, vo, none⟩, vc, vv⟩) = false from
        pairBad_no Q.out (by rw [← Q.out]; exact Q3.out) (by have := ZL.out; show vv.length ≠ 0; omega) (by rw [show (LR.pr ⟨vt, some ⟨vb, vo, none⟩, vc, vv⟩).2.getD 0 0 = 1 from HD.out.symm]; decide) (by rw [show (LR.pr ⟨vt, some ⟨vb, vo, none⟩, vc, vv⟩).2.getD 0 0 = 1 from HD.out.symm]; exact fun h => nomatch h.1))
      clear h1 h0
      obtain ⟨aL1, cs, h1, h2, h3, h4, h5, h6⟩ := WI.out
      have P1 := hid h1
      have E1 := hid h2
      have E3 := hid h3
      have E4 := hid h4
      have E5 := hid h5
      have N1 := hid (show n1 ≤ 1000000 by have := NL.out; have := LT.out; have := TT.out; have := few.out; have := LTQ.out; have := NN.out; have := Q.out; omega)
      clear h1 h2 h3 h4 h5 h6
      go_upto_region 17 with (fail)
      refine wp_region_held_drew (S := fun w' => Below wr.heap.size wr w') (by kernel_rfl) ((Below.refl _ _).drew) (fun hHeld => ?_)
      try simp only [List.size_toArray, List.length_cons, List.length_nil, Nat.reduceAdd, Array.replicate_succ, Array.replicate_zero, List.push_toArray, List.nil_append, List.cons_append]
      refine wpAnyH_take (i := 0) (oi := { dst := some 99, op := Op.move (Operand.tmp 6), type := 31, pos := "law.go:105", after := #[], guard := none }) (v := (.slice a1 n1 c1)) rfl (by kernel_rfl) (by kernel_rfl) (by kernel_rfl) (fun _ _ _ h => h) (Or.inl ⟨by rfl, fun w _ => by go_simp⟩) hHeld ?_
      (try simp only [Act.put, List.setIfInBounds_toArray, List.set_cons_zero, List.set_cons_succ])
      refine wpAnyH_take (i := 1) (oi := { dst := some 100, op := Op.move (Operand.tmp 9), type := 73, pos := "law.go:105", after := #[], guard := none }) (v := ?v2001) rfl (by kernel_rfl) (by kernel_rfl) (by kernel_rfl) (fun _ _ _ h => h) (Or.inl ⟨by rfl, ?hy2001⟩) hHeld ?_
      case hy2001 => (intro w hSw; (try dsimp only at hSw); go_simp; (try with_reducible rfl))
      (try simp only [Act.put, List.setIfInBounds_toArray, List.set_cons_zero, List.set_cons_succ])
      refine wpAnyH_take (i := 2) (oi := { dst := some 101, op := Op.move (Operand.tmp 11), type := 3, pos := "law.go:105", after := #[], guard := none }) (v := ?v2002) rfl (by kernel_rfl) (by kernel_rfl) (by kernel_rfl) (fun _ _ _ h => h) (Or.inl ⟨by rfl, ?hy2002⟩) hHeld ?_
      case hy2002 => (intro w hSw; (try dsimp only at hSw); go_simp; (try with_reducible rfl))
      (try simp only [Act.put, List.setIfInBounds_toArray, List.set_cons_zero, List.set_cons_succ])
      refine wpAnyH_take (i := 3) (oi := { dst := some 102, op := Op.indexAddr 73 (Operand.tmp 100) (Operand.tmp 101), type := 0, pos := "law.go:105", after := #[{ on := 1, ground := Ground.data }, { on := 2, ground := Ground.data }], guard := none }) (v := (.pointer (some ⟨rb, roff + kt * 2, none⟩))) rfl (by kernel_rfl) (by kernel_rfl) (by kernel_rfl) (fun _ _ _ h => h) (Or.inl ⟨by rfl, fun w _ => by go_simp⟩) hHeld ?_
      (try simp only [Act.put, List.setIfInBounds_toArray, List.set_cons_zero, List.set_cons_succ])
      refine wpAnyH_take (i := 4) (oi := { dst := some 103, op := Op.fieldAddr 77 (Operand.tmp 102) 1, type := 0, pos := "law.go:105", after := #[{ on := 3, ground := Ground.data }], guard := none }) (v := (.pointer (some ⟨rb, roff + kt * 2 + 1, none⟩))) rfl (by kernel_rfl) (by kernel_rfl) (by kernel_rfl) (fun _ _ _ h => h) (Or.inl ⟨by rfl, fun w _ => by go_simp⟩) hHeld ?_
      (try simp only [Act.put, List.setIfInBounds_toArray, List.set_cons_zero, List.set_cons_succ])
      refine wpAnyH_take (i := 5) (oi := { dst := some 104, op := Op.load 22 (Operand.tmp 103), type := 22, pos := "law.go:105", after := #[{ on := 4, ground := Ground.data }], guard := none }) (v := (.slice ka kv.length kc)) rfl (by kernel_rfl) (by kernel_rfl) (by kernel_rfl) (fun _ _ _ h => h) (Or.inl ⟨by rfl, fun w h => by have c9 := cell_keep h k1'; go_simp⟩) hHeld ?_
      (try simp only [Act.put, List.setIfInBounds_toArray, List.set_cons_zero, List.set_cons_succ])
      refine wpAnyH_take (i := 6) (oi := { dst := some 105, op := Op.move (Operand.tmp 12), type := 22, pos := "law.go:105", after := #[], guard := none }) (v := ?v2003) rfl (by kernel_rfl) (by kernel_rfl) (by kernel_rfl) (fun _ _ _ h => h) (Or.inl ⟨by rfl, ?hy2003⟩) hHeld ?_
      case hy2003 => (intro w hSw; (try dsimp only at hSw); go_simp; (try with_reducible rfl))
      (try simp only [Act.put, List.setIfInBounds_toArray, List.set_cons_zero, List.set_cons_succ])
      refine wpAnyH_take (i := 7) (oi := { dst := some 106, op := Op.slice 22 (Operand.tmp 105) (some (Operand.const (Value.int IntKind.i64 1))) none none, type := 22, pos := "law.go:105", after := #[{ on := 6, ground := Ground.data }], guard := none }) (v := (.slice (some ⟨vb, vo', none⟩) yv.length (vc - 1))) rfl (by kernel_rfl) (by kernel_rfl) (by kernel_rfl) (fun _ _ _ h => h) (Or.inl ⟨by rfl, fun w _ => by have c9 := DQ w; go_simp⟩) hHeld ?_
      (try simp only [Act.put, List.setIfInBounds_toArray, List.set_cons_zero, List.set_cons_succ])
      refine wpAnyH_take (i := 8) (oi := { dst := some 107, op := Op.move (Operand.tmp 12), type := 22, pos := "law.go:105", after := #[], guard := none }) (v := ?v2004) rfl (by kernel_rfl) (by kernel_rfl) (by kernel_rfl) (fun _ _ _ h => h) (Or.inl ⟨by rfl, ?hy2004⟩) hHeld ?_
      case hy2004 => (intro w hSw; (try dsimp only at hSw); go_simp; (try with_reducible rfl))
      (try simp only [Act.put, List.setIfInBounds_toArray, List.set_cons_zero, List.set_cons_succ])
      refine wpAnyH_take (i := 9) (oi := { dst := some 108, op := Op.indexAddr 22 (Operand.tmp 107) (Operand.const (Value.int IntKind.i64 0)), type := 0, pos := "law.go:105", after := #[{ on := 8, ground := Ground.data }], guard := none }) (v := (.pointer (some ⟨vb, vo, none⟩))) rfl (by kernel_rfl) (by kernel_rfl) (by kernel_rfl) (fun _ _ _ h => h) (Or.inl ⟨by rfl, fun w _ => by go_simp⟩) hHeld ?_
      (try simp only [Act.put, List.setIfInBounds_toArray, List.set_cons_zero, List.set_cons_succ])
      refine wpAnyH_take (i := 10) (oi := { dst := some 109, op := Op.load 5 (Operand.tmp 108), type := 5, pos := "law.go:105", after := #[{ on := 9, ground := Ground.data }], guard := none }) (v := (.int .u8 1)) rfl (by kernel_rfl) (by kernel_rfl) (by kernel_rfl) (fun _ _ _ h => h) (Or.inl ⟨by rfl, fun w h => by have c9 := cell_keep h d3; go_simp⟩) hHeld ?_
      (try simp only [Act.put, List.setIfInBounds_toArray, List.set_cons_zero, List.set_cons_succ])
      refine wpAnyH_take (i := 11) (oi := { dst := some 110, op := Op.binOp BinOp.eql 5 (Operand.tmp 109) (Operand.const (Value.int IntKind.u8 0)) 5, type := 4, pos := "law.go:105", after := #[{ on := 10, ground := Ground.data }], guard := none }) (v := (.bool false)) rfl (by kernel_rfl) (by kernel_rfl) (by kernel_rfl) (fun _ _ _ h => h) (Or.inl ⟨by rfl, fun w _ => by go_simp⟩) hHeld ?_
      (try simp only [Act.put, List.setIfInBounds_toArray, List.set_cons_zero, List.set_cons_succ])
      refine wpAnyH_take (i := 12) (oi := { dst := some 111, op := Op.build 42 #[(0, Operand.tmp 104), (1, Operand.tmp 106), (2, Operand.tmp 110)], type := 42, pos := "law.go:105", after := #[{ on := 5, ground := Ground.data }, { on := 7, ground := Ground.data }, { on := 11, ground := Ground.data }], guard := none }) (v := (.agg #[.slice ka kv.length kc, .slice (some ⟨vb, vo', none⟩) yv.length (vc - 1), .bool false])) rfl (by kernel_rfl) (by kernel_rfl) (by kernel_rfl) (fun _ _ _ h => h) (Or.inl ⟨by rfl, fun w _ => by go_simp⟩) hHeld ?_
      (try simp only [Act.put, List.setIfInBounds_toArray, List.set_cons_zero, List.set_cons_succ])
      refine wpAnyH_ready (rs := [13]) (by kernel_rfl) (by simp) ?_
      refine AllReadyH.cons (o := { dst := some 112, op := Op.buildSlice 40 1 #[(0, Operand.tmp 111)], type := 40, pos := "law.go:105", after := #[{ on := 12, ground := Ground.data }], guard := none }) rfl (fun K hK => ?_) ?_
      refine wp_lit1 _ _ _ rfl (cells := #[.slice ka kv.length kc, .slice (some ⟨vb, vo', none⟩) yv.length (vc - 1), .bool false]) rfl Tryz.underlying40 (size := 3) (by kernel_rfl) (by kernel_rfl) rfl (by decide) (by decide) ?_; (first | refine newZd ?_ | refine newZ ?_); intro wq HQ BQ; have BQ := hid (show Below wr.heap.size wr wq from by first | exact BQ.out | exact (Below.refl wr.heap.size wr).drew.trans BQ.out)
      refine hK.out _ _ (BQ.out) (fun hHeld => ?_)
      clear hK K
      (try simp only [List.setIfInBounds_toArray, List.set_cons_zero, List.set_cons_succ])
      refine wpAnyH_ready (rs := [14]) (by kernel_rfl) (by simp) ?_
      refine AllReadyH.cons (o := { dst := some 113, op := Op.call { callee := Callee.value (Operand.func 20), args := #[Operand.tmp 99, Operand.tmp 112], argTypes := #[31, 40] }, type := 31, pos := "law.go:105", after := #[{ on := 0, ground := Ground.data }, { on := 13, ground := Ground.data }], guard := none }) rfl (fun K hK => ?_) ?_
      go_simp; refine (done_walk _ n1 c1 aL1 _ 1 1 [⟨ka, kc, kv, some ⟨vb, vo', none⟩, vc - 1, yv, false⟩] _ (P1.out.below BQ.out) (chs_one HQ.out ((SLC.out false).below (BWI.out.trans (BQ.out.mono BWI.out.size)))) N1.out (by decide)).mono ?_; rintro e w7 ⟨a7, c7, rfl, hp7, hb7⟩; have P7 := hid hp7; have B7 := hid hb7; clear hp7 hb7
      refine hK.out _ _ (hHeld.trans (B7.out.mono hHeld.size)) (fun hHeld => ?_)
      clear hK K
      (try simp only [List.setIfInBounds_toArray, List.set_cons_zero, List.set_cons_succ])
      refine wpAnyH_take (i := 15) (oi := { dst := some 6, op := Op.assign (Operand.tmp 113), type := 31, pos := "law.go:105", after := #[{ on := 14, ground := Ground.data }, { on := 14, ground := Ground.chain }, { on := 0, ground := Ground.phase }, { on := 1, ground := Ground.phase }, { on := 2, ground := Ground.phase }, { on := 3, ground := Ground.phase }, { on := 4, ground := Ground.phase }, { on := 5, ground := Ground.phase }, { on := 6, ground := Ground.phase }, { on := 7, ground := Ground.phase }, { on := 8, ground := Ground.phase }, { on := 9, ground := Ground.phase }, { on := 10, ground := Ground.phase }, { on := 11, ground := Ground.phase }, { on := 12, ground := Ground.phase }, { on := 13, ground := Ground.phase }, { on := 14, ground := Ground.phase }], guard := none }) (v := (.slice a7 (doneL aL1 [⟨ka, kc, kv, some ⟨vb, vo', none⟩, vc - 1, yv, false⟩]).length c7)) rfl (by kernel_rfl) (by kernel_rfl) (by kernel_rfl) (fun _ _ _ h => h) (Or.inl ⟨by rfl, fun w _ => by go_simp⟩) hHeld ?_
      (try simp only [Act.put, List.setIfInBounds_toArray, List.set_cons_zero, List.set_cons_succ])
      refine wpAnyH_done (by kernel_rfl) ?_ _
      rotate_left
      exact AllReadyH.nil
      exact AllReadyH.nil
      have BW7 := hid (show Below wd.heap.size wd w7 from BWI.out.trans ((BQ.out.trans (B7.out.mono BQ.out.size)).mono BWI.out.size))
      have E7 := hid (WrJ.step E1.out E3.out E4.out E5.out P1.out.2.1 KP.out VP.out PB.out ⟨ka, kc, kv, some ⟨vb, vo', none⟩, vc - 1, yv, false⟩ (by rw [YV.out]; show Chg.mk kv (vv.drop 1) false = Chg.mk kv (vv.drop 1) (decide (vv.getD 0 0 = 0)); rw [← HD.out]; rfl) P7.out BW7.out)
      obtain ⟨q5, hq5⟩ : ∃ q5, q5 = 2 * (j + 1) := ⟨_, rfl⟩
      have Q5 := hid hq5
      have e5 : IntKind.i64.wrap ((kt : Int) + 2) = (q5 : Int) := by have := Q.out; have := NN.out; have := LTQ.out; rw [IntKind.wrap_i64]; omega
      clear P7 B7 PB hq5
      go_wp2_with (fail)
      go_roundw
      case rel => exact ⟨j + 1, q5, _, _, _, rfl, Q5.out, by have := Q.out; have := LTQ.out; have := EV.out; have := Q5.out; omega, rfl, E7.out⟩
      case measure => simp [intOf]; have := Q.out; have := LTQ.out; have := Q5.out; omega
end Go.Proofs.YtnophelfpoldfaaGreatDoor

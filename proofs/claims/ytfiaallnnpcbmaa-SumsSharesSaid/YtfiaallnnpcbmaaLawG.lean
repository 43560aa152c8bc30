/- The reference's Share, and the walk of the statement SumsShares. -/
import Derived.Test.YtfiaallnnpcbmaaLawE
import Derived.Test.YtfiaallnnpcbmaaLawF
namespace Go.Proofs.Ytfiaallnnpcbmaa
open Go.RowKit

theorem own_below {w w' : World} {B : Nat} {e : TypeId} {size : Nat} {v : Value} {n : Nat} {xs : List Value} (h : w.ownsRow B e size v n xs) (hb : Below w.heap.size w w') : w'.ownsRow B e size v n xs := by
  refine ⟨h.1, ?_⟩
  rcases h.2 with hn | ⟨g, cap, cur, rfl, hb0, hg, rest⟩
  · exact .inl hn
  · exact .inr ⟨g, cap, cur, rfl, hb0, by rw [hb.block g (Array.getElem?_eq_some_iff.1 hg).1]; exact hg, rest⟩

set_option maxHeartbeats 4000000 in
theorem rshare_walk (sum : Nat) (a : Option Addr) (n cap : Nat) (ws : List Nat) (hs : sum < 18446744073709551616) (hb : ∀ d ∈ ws, d < 18446744073709551616) (hn : n ≤ 1048576) (w : World) (h : Sl .u64 w a n cap ws) :
    Calls Try.prog 30 #[.int .u64 sum, .slice a n cap] w (ShareRes w sum ws) := by
  have HL := hid h.len
  have tw := fun wx (hx : Sl .u64 wx a n cap ws) => hid (rtotal_walk a n cap ws hb hn wx hx)
  by_cases hf : ws.sum < 18446744073709551616
  · by_cases h0 : ws.sum = 0
    · have F := fun wx (hx : Below w.heap.size w wx) => hid (show ShareRes w sum ws (.returned (.tuple #[.slice none 0 0, .int .i64 12])) wx from ⟨hx, fun h => absurd hf h, fun _ => rfl, fun h => by omega⟩)
      have TV := hid (totV_yes hf)
      rw [h0] at TV
      clear h0
      go_enter Try.func30, Try.ntmps30
      go_wp2_with fail
      refine ((tw w h).out).mono ?_
      rintro e w' ⟨rfl, b1⟩
      rw [TV.out]
      have FF := F w' b1
      clear F
      go_wp2
      go_ret2
      exact FF.out
    · have F := fun v wx (hx : Below w.heap.size w wx) (hv : SlV .u64 wx v (arr ws.length (finAt sum ws.sum ws))) => hid (show ShareRes w sum ws (.returned (.tuple #[v, .int .i64 0])) wx from ⟨hx, fun h => absurd hf h, fun h => absurd h h0, fun _ _ => ⟨v, rfl, hv⟩⟩)
      have TV := hid (totV_yes hf)
      have hpos : 0 < ws.sum := by omega
      have PV := fun k => hid (part_p hs hpos k)
      have PW := fun k wx => hid (rpart_walk sum (wAt ws k) ws.sum false hs (getD_mem_lt hb (by omega) k) hf wx)
      have PL := fun k => pAt_le (sum := sum) (ws := ws) k
      have PS := fun k => part_sum_le (sum := sum) (ws := ws) hpos rfl (k := k)
      have WL := fun k => getD_mem_lt hb (show 0 < 18446744073709551616 by decide) k
      have FL := hid (fun k hk => fin_le (sum := sum) (ws := ws) hpos rfl (k := k) hk)
      have hall0 : ((ws.sum : Int) == 0) = false := by simp; omega
      generalize ws.sum = all at *
      go_enter Try.func30, Try.ntmps30
      go_wp2_with fail
      refine ((tw w h).out).mono ?_
      rintro e w0 ⟨rfl, b0⟩
      rw [TV.out]
      clear tw TV
      have H := hid h
      have PLh := hid PL; have PSh := hid PS; have WLh := hid WL; have Fh := hid F; have PVh := hid PV; have PWh := hid PW
      clear h PL PS WL F PV PW
      have O0 := World.ownsRow_made (base := w.heap.size) (e := 22) (size := 1) w0 #[] 0 b0.size (by simp) (by simp)
      have B0 := b0.alloc b0.size (.cells #[] 22)
      have O0h := hid O0
      clear O0
      go_wp2
      go_loopw [8, 9, 28] (fun v g0 i0 wr => ∃ k : Nat, k ≤ n ∧ i0 = .int .i64 k ∧ g0 = .int .u64 (((arr k (pAt sum all ws)).sum : Nat) : Int) ∧ wr.ownsRow w.heap.size 22 1 v (arr k (pAt sum all ws)).length (nums .u64 (arr k (pAt sum all ws))) ∧ Below w.heap.size w wr ∧ Hid (v ≠ .slice none 0 0)) (fun _ _ i0 _ => n - (intOf i0).toNat)
      case atStart => exact ⟨0, by omega, rfl, rfl, O0h.out, B0, hid (by simp)⟩
      case round =>
        clear O0h B0
        obtain ⟨k, hk, rfl, rfl, hown, hbw, hnn⟩ := hrel
        by_cases hlt : k < n
        · obtain ⟨b, off, ha, hc⟩ := (H.out.below hbw).opened
          have hcx := hc k hlt
          obtain rfl := ha (by omega)
          have hd := WLh.out k
          have e1 : ws.getD k 0 = wAt ws k := rfl
          rw [e1] at hcx hd
          have pv := PVh.out k
          have pw := PWh.out k
          have pl := PLh.out k
          have ps := PSh.out (k + 1) (by rw [HL.out]; omega)
          rw [arr_sum_succ] at ps
          have hsum := hid (arr_sum_succ k (pAt sum all ws))
          have hsucc := hid (arr_succ k (pAt sum all ws))
          have hol : (arr k (pAt sum all ws)).length < 4294967296 := by rw [arr_length]; omega
          generalize hp : pAt sum all ws k = p at *
          generalize hwk : wAt ws k = wk at *
          generalize hsm : (arr k (pAt sum all ws)).sum = sm at *
          generalize arr k (pAt sum all ws) = os at *
          clear hp hwk hsm e1 hc
          go_wp2_with fail
          refine ((pw _).out).mono ?_
          rintro e w2 ⟨rfl, b2⟩
          rw [pv.out]
          have hown2 := own_below hown b2
          have hb2 := bstep hbw b2
          clear hown hbw b2
          go_wp2_with (at_builtin; refine wpList_push rfl _ _ 35 rfl tyU64s' w.heap.size hown2 rfl rfl rfl rfl hol (by decide) hb2.size ?_)
          intro v3 w3 hown3 hb3 hs3 hn3
          have hn3 := hid hn3
          go_wp2
          go_roundw
          case rel => exact ⟨k + 1, by omega, by go_num, by rw [hsum.out]; go_num, by rw [hsucc.out]; exact own_snoc hown3 rfl, hb2.trans hb3, hn3⟩
          case measure => simp [intOf]; omega
        · obtain rfl : n = k := by omega
          have hle := PSh.out n (by rw [HL.out]; exact Nat.le_refl _)
          have hlft : lft sum all ws = sum - (arr n (pAt sum all ws)).sum := by unfold lft; rw [HL.out]
          have HLF := hid hlft
          have hmz := hid (mid_zero sum all ws n)
          rw [← hmz.out] at hown
          have hgv : (arr n (pAt sum all ws)).sum = (arr n (pAt sum all ws)).sum + min (pos ws 0) (lft sum all ws) := by
            have e : pos ws 0 = 0 := rfl
            rw [e]; simp
          have hsl : (arr n (pAt sum all ws)).sum + lft sum all ws = sum := by omega
          rw [hgv]
          generalize (arr n (pAt sum all ws)).sum = S at *
          clear hgv hlft HLF hle
          rw [arr_length] at hown
          have HSL := hid hsl
          clear hsl
          rcases hown.2 with ⟨hv, hn0⟩ | ⟨g, gcap, gcur, hv, hgB, _⟩
          · exact absurd hv hnn.out
          · subst hv
            go_wp2
            go_loopw [9, 49] (fun g0 i0 wr => ∃ k : Nat, k ≤ n ∧ i0 = .int .i64 k ∧ g0 = .int .u64 ((S + min (pos ws k) (lft sum all ws) : Nat) : Int) ∧ wr.ownsRow w.heap.size 22 1 (.slice (some ⟨g, 0, none⟩) n gcap) n (nums .u64 (arr n (midAt sum all ws k))) ∧ Below w.heap.size w wr) (fun _ i0 _ => n - (intOf i0).toNat)
            case atStart => exact ⟨0, by omega, rfl, rfl, hown, hbw⟩
            case round =>
              clear hown hbw
              obtain ⟨k, hk, rfl, rfl, hown, hbw⟩ := hrel
              by_cases hlt : k < n
              · obtain ⟨b, off, ha, hc⟩ := (H.out.below hbw).opened
                have hcx := hc k hlt
                obtain rfl := ha (by omega)
                have hd := WLh.out k
                have e1 : ws.getD k 0 = wAt ws k := rfl
                rw [e1] at hcx hd
                have pl := PLh.out k
                have fl := FL.out k (by rw [HL.out]; exact hlt)
                have hps := pos_succ ws k
                have hoc := own_cell hown k hlt
                have em : midAt sum all ws k k = pAt sum all ws k := by unfold midAt; rw [if_neg (by omega)]
                rw [arr_getD _ hlt, em] at hoc
                have hof := hown.frozenAt k
                have hfin := hid (show finAt sum all ws k = pAt sum all ws k + (if 0 < wAt ws k ∧ pos ws k < lft sum all ws then 1 else 0) from rfl)
                have hset := hid (show (arr n (midAt sum all ws k)).set k (finAt sum all ws k) = arr n (midAt sum all ws (k + 1)) by have := mid_set (sum := sum) (all := all) (ws := ws) (k := k); rw [HL.out] at this; exact this)
                have hsame := hid (fun hq : finAt sum all ws k = pAt sum all ws k => (show arr n (midAt sum all ws k) = arr n (midAt sum all ws (k + 1)) by have := mid_same hq; rw [HL.out] at this; exact this))
                have hst := hid (fun (z : Int) (d : Nat) (hz : z = (d : Int)) => own_store hown k hz)
                generalize hp : pAt sum all ws k = p at *
                generalize hwk : wAt ws k = wk at *
                generalize hL : lft sum all ws = L at *
                have HPS := hid hps
                clear hp hwk e1 hc em hL hps
                have hsl := HSL.out
                by_cases hg : 0 < wk ∧ pos ws k < L
                · obtain ⟨hg1, hg2⟩ := hg
                  have hpn := hid (show S + min (pos ws (k + 1)) L = S + min (pos ws k) L + 1 by rw [HPS.out, if_pos hg1]; omega)
                  have hf1 := hfin.out
                  rw [if_pos ⟨hg1, hg2⟩] at hf1
                  have HF1 := hid hf1
                  have hp1 : p + 1 ≤ sum := by omega
                  have hs1 := hid (hst.out ((p : Int) + 1) (p + 1) (by omega))
                  have hgl : S + min (pos ws k) L < sum := by omega
                  clear hf1 hfin hsame hst hg2 hsl
                  generalize S + min (pos ws k) L = gv at *
                  go_wp2
                  have hs2 := hs1.out
                  rw [← HF1.out, hset.out] at hs2
                  go_roundw
                  case rel => exact ⟨k + 1, by omega, by go_num, by rw [hpn.out]; go_num, hs2.1, hbw.trans hs2.2⟩
                  case measure => simp [intOf]; omega
                · have hf1 := hfin.out
                  rw [if_neg hg] at hf1
                  have hsm := hid (hsame.out hf1)
                  have hpn := hid (show S + min (pos ws (k + 1)) L = S + min (pos ws k) L by rw [HPS.out]; by_cases h0 : 0 < wk <;> simp [h0] <;> omega)
                  have hg' : ¬ 0 < wk ∨ ¬ S + min (pos ws k) L < sum := by omega
                  clear hf1 hfin hsame hst hset hg hsl
                  generalize S + min (pos ws k) L = gv at *
                  by_cases hw0 : 0 < wk
                  · have hwz : ¬ gv < sum := by omega
                    clear hg'
                    go_wp2
                    go_roundw
                    case rel => exact ⟨k + 1, by omega, by go_num, by rw [hpn.out], by rw [← hsm.out]; exact hown, hbw⟩
                    case measure => simp [intOf]; omega
                  · clear hg'
                    go_wp2
                    go_roundw
                    case rel => exact ⟨k + 1, by omega, by go_num, by rw [hpn.out], by rw [← hsm.out]; exact hown, hbw⟩
                    case measure => simp [intOf]; omega
              · obtain rfl : n = k := by omega
                have hz := hid (show arr n (midAt sum all ws n) = arr ws.length (finAt sum all ws) by have := mid_full sum all ws; rw [HL.out] at this ⊢; exact this)
                rw [hz.out] at hown
                have FF := Fh.out _ wr hbw (SlV.of_owns hown)
                go_wp2
                go_ret2
                exact FF.out
  · have F := fun wx (hx : Below w.heap.size w wx) => hid (show ShareRes w sum ws (.returned (.tuple #[.slice none 0 0, .int .i64 10])) wx from ⟨hx, fun _ => rfl, fun h => by omega, fun _ h => absurd h hf⟩)
    have TV := hid (totV_no hf)
    go_enter Try.func30, Try.ntmps30
    go_wp2_with fail
    refine ((tw w h).out).mono ?_
    rintro e w' ⟨rfl, b1⟩
    rw [TV.out]
    have FF := F w' b1
    clear F
    go_wp2
    go_ret2
    exact FF.out
set_option maxHeartbeats 4000000 in
theorem lawShares (sum : Nat) (a : Option Addr) (n cap : Nat) (ws : List Nat) (hs : sum < 18446744073709551616) (hb : ∀ d ∈ ws, d < 18446744073709551616) (w : World) (h : Sl .u64 w a n cap ws) :
    Calls Try.prog 11 #[.int .u64 sum, .slice a n cap] w fun e w' => e = .returned (.bool true) ∧ Below w.heap.size w w' := by
  by_cases hn : 40 < n
  · go_enter Try.func11, Try.ntmps11
    go_wp2_with fail
    refine (sharefn_walk _).mono ?_
    rintro e w1 ⟨rfl, b1⟩
    go_wp2
    go_ret
    exact ⟨rfl, b1⟩
  · have sw := fun wx ax cx (hx : Sl .u64 wx ax n cx ws) => hid (share_walk sum ax n cx ws hs hb (by omega) wx hx)
    have rw' := fun wx (hx : Sl .u64 wx a n cap ws) => hid (rshare_walk sum a n cap ws hs hb (by omega) wx hx)
    have HL := hid h.len
    have H := hid h
    clear h
    go_enter Try.func11, Try.ntmps11
    go_wp2_with fail
    refine (sharefn_walk _).mono ?_
    rintro e w1 ⟨rfl, b1⟩
    have O1 := hid (World.ownsRow_made (base := w1.heap.size) (e := 22) (size := 1) w1 #[] 0 (Nat.le_refl _) (by simp) (by simp))
    have bb := (Below.refl w1.heap.size w1).alloc (Nat.le_refl _) (.cells #[] 22)
    have S1 := hid (H.out.below (b1.trans (bb.mono b1.size)))
    go_wp2_with (at_builtin; refine wpList_cat rfl _ _ 35 rfl tyU64s' w1.heap.size O1.out rfl rfl S1.out (nums_oneCell _ _) ?c1 ?c2 ?c3 ?_)
    case c1 => omega
    case c2 => unfold maxLen; omega
    case c3 => simp
    intro v2 w2 hown2 hb2 hs2 _
    have hm := SlV.of_owns hown2
    obtain ⟨am, cm, rfl, sm⟩ := hm
    rw [HL.out] at sm ⊢
    have b2 : Below w.heap.size w w2 := bstep b1 (bb.trans hb2)
    clear hown2 hb2 hs2 bb S1 O1 b1
    go_wp2_with fail
    refine ((sw w2 am cm sm).out).mono ?_
    rintro e w3 ⟨b3, p1, p2, p3⟩
    have b23 := bstep b2 b3
    have rw3 := hid (rw' w3 (H.out.below b23))
    by_cases hf : ws.sum < 18446744073709551616
    · by_cases h0 : ws.sum = 0
      · obtain rfl := p2 h0
        have h0' := hid h0
        clear p1 p2 p3 h0 sw rw' b3 b2 sm
        go_wp2_with fail
        refine (rw3.out).mono ?_
        rintro e w4 ⟨b4, _, q2, _⟩
        obtain rfl := q2 h0'.out
        have b := bstep b23 b4
        clear b23 b4 rw3
        go_wp2
        go_loopw [43] (fun i0 wr => i0 = .int .i64 0 ∧ Hid (wr = w4)) (fun _ _ => 0)
        case atStart => exact ⟨rfl, hid rfl⟩
        case round =>
          obtain ⟨rfl, hw⟩ := hrel
          have b' : Below w.heap.size w wr := by rw [hw.out]; exact b
          go_wp2
          go_ret
          exact ⟨rfl, b'⟩
      · have hpos : 0 < ws.sum := by omega
        obtain ⟨v, rfl, hv⟩ := p3 hpos hf
        have h0' := hid hpos
        clear p1 p2 p3 sw rw' b2
        have sm3 := hid (sm.below b3)
        clear sm b3
        obtain ⟨ax, cx, rfl, sx⟩ := hv
        rw [arr_length] at sx ⊢
        rw [HL.out] at sx ⊢
        go_wp2_with fail
        refine (rw3.out).mono ?_
        rintro e w4 ⟨b4, _, _, q3⟩
        obtain ⟨v', rfl, hv'⟩ := q3 h0'.out hf
        have b := bstep b23 b4
        obtain ⟨ay, cy, rfl, sy⟩ := hv'
        rw [arr_length] at sy ⊢
        rw [HL.out] at sy ⊢
        have sx4 := sx.below b4
        have sm4 := sm3.out.below b4
        have sw4 := H.out.below b
        clear sx sm3 b4 rw3 b23 q3 H
        generalize arr n (finAt sum ws.sum ws) = xs at *
        obtain ⟨b1, o1, e1, c1⟩ := sx4.opened
        obtain ⟨b2, o2, e2, c2⟩ := sy.opened
        obtain ⟨b3, o3, e3, c3⟩ := sm4.opened
        obtain ⟨b4, o4, e4, c4⟩ := sw4.opened
        have C1 := hid c1
        have C2 := hid c2
        have C3 := hid c3
        have C4 := hid c4
        clear c1 c2 c3 c4 sx4 sy sm4 sw4
        go_wp2
        go_loopw [43] (fun i0 wr => ∃ i : Nat, i ≤ n ∧ i0 = .int .i64 i ∧ Qt w4 wr) (fun i0 _ => n - (intOf i0).toNat)
        case atStart => exact ⟨0, by omega, rfl, Qt.refl _⟩
        case round =>
          obtain ⟨i, hi, rfl, q, rfl⟩ := hrel
          by_cases hlt : i < n
          · obtain rfl := e1 (by omega)
            obtain rfl := e2 (by omega)
            obtain rfl := e3 (by omega)
            obtain rfl := e4 (by omega)
            have d1 := C1.out i hlt
            have d2 := C2.out i hlt
            have d3 := C3.out i hlt
            have d4 := C4.out i hlt
            generalize xs.getD i 0 = x at *
            generalize ws.getD i 0 = y at *
            have g1 : ((x : Int) != (x : Int)) = false := by simp
            have g2 : ((y : Int) != (y : Int)) = false := by simp
            go_wp2
            go_quiet (fail)
            go_wp2
            go_roundw
            case rel => exact ⟨i + 1, by omega, by go_num, _, rfl⟩
            case measure => simp [intOf]; omega
          · obtain rfl : n = i := by omega
            go_wp2
            go_ret
            exact ⟨rfl, below_drewN b q⟩
    · obtain rfl := p1 hf
      have hf' := hid hf
      clear p1 p2 p3 hf sw rw' b3 b2 sm
      go_wp2_with fail
      refine (rw3.out).mono ?_
      rintro e w4 ⟨b4, q1, _, _⟩
      obtain rfl := q1 hf'.out
      have b := bstep b23 b4
      clear b23 b4 rw3
      go_wp2
      go_loopw [43] (fun i0 wr => i0 = .int .i64 0 ∧ Hid (wr = w4)) (fun _ _ => 0)
      case atStart => exact ⟨rfl, hid rfl⟩
      case round =>
        obtain ⟨rfl, hw⟩ := hrel
        have b' : Below w.heap.size w wr := by rw [hw.out]; exact b
        go_wp2
        go_ret
        exact ⟨rfl, b'⟩

end Go.Proofs.Ytfiaallnnpcbmaa

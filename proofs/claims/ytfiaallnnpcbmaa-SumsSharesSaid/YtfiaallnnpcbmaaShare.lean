/- Contract of sums.Share. -/
import Derived.Test.YtfiaallnnpcbmaaPart
import Derived.Test.YtfiaallnnpcbmaaShareP
namespace Go.Proofs.Ytfiaallnnpcbmaa
open Go.RowKit

theorem infoU64' : (Try.prog.info? 22).map (fun i => (i.zero, i.size, i.bytes)) = some (some (.int .u64 0), 1, 8) := by kernel_rfl
theorem tyU64s' : SliceTy Try.prog 35 22 1 8 (.int .u64 0) := .mk' Try.underlying35 infoU64' rfl (by decide)

def ShareRes (w : World) (sum : Nat) (ws : List Nat) (e : Ending) (w' : World) : Prop :=
  Below w.heap.size w w' ∧ (¬ ws.sum < 18446744073709551616 → e = .returned (.tuple #[.slice none 0 0, .int .i64 10])) ∧ (ws.sum = 0 → e = .returned (.tuple #[.slice none 0 0, .int .i64 12])) ∧
    (0 < ws.sum → ws.sum < 18446744073709551616 → ∃ v, e = .returned (.tuple #[v, .int .i64 0]) ∧ SlV .u64 w' v (arr ws.length (finAt sum ws.sum ws)))

theorem w_le {ws : List Nat} (k : Nat) : wAt ws k ≤ ws.sum := by
  unfold wAt
  by_cases h : k < ws.length
  · have h1 := sum_take_succ h
    have h2 := sum_take_le ws (k + 1)
    omega
  · rw [List.getD_eq_getElem?_getD, List.getElem?_eq_none (Nat.le_of_not_lt h)]; simp
theorem pAt_le {sum : Nat} {ws : List Nat} (k : Nat) : pAt sum ws.sum ws k ≤ sum := by
  unfold pAt
  apply Nat.div_le_of_le_mul
  rw [Nat.mul_comm]
  exact Nat.mul_le_mul_right _ (w_le k)
theorem part_p {sum : Nat} {ws : List Nat} (hs : sum < 18446744073709551616) (h : 0 < ws.sum) (k : Nat) : partV sum (wAt ws k) ws.sum false = .tuple #[.int .u64 ((pAt sum ws.sum ws k : Nat) : Int), .int .i64 0] := by
  have e : partN sum (wAt ws k) ws.sum false = pAt sum ws.sum ws k := by simp [partN, pAt]
  have := pAt_le (sum := sum) (ws := ws) k
  rw [partV_yes (by omega) (by rw [e]; omega), e]
def preAt (sum all : Nat) (ws : List Nat) (k j : Nat) : Nat := if j < k then pAt sum all ws j else 0
theorem pre_set {sum all : Nat} {ws : List Nat} {n k : Nat} : (arr n (preAt sum all ws k)).set k (pAt sum all ws k) = arr n (preAt sum all ws (k + 1)) := by
  apply arr_set
  intro j _
  unfold preAt
  by_cases h1 : j = k
  · subst h1; simp
  · by_cases h2 : j < k
    · rw [if_pos (show j < k + 1 by omega), if_neg h1, if_pos h2]
    · rw [if_neg (show ¬ j < k + 1 by omega), if_neg h1, if_neg h2]
theorem pre_full (sum all : Nat) (ws : List Nat) : arr ws.length (preAt sum all ws ws.length) = arr ws.length (midAt sum all ws 0) := arr_congr (fun j h => by unfold preAt midAt; rw [if_pos h, if_neg (by omega)])
theorem pre_zero (sum all : Nat) (ws : List Nat) (n : Nat) : arr n (preAt sum all ws 0) = List.replicate n 0 := by
  rw [← arr_replicate]; exact arr_congr (fun j _ => by unfold preAt; rw [if_neg (by omega)])
theorem own_drewN {w : World} {B : Nat} {e : TypeId} {size : Nat} {v : Value} {n : Nat} {xs : List Value} (h : w.ownsRow B e size v n xs) (q : Nat) : (w.drewN q).ownsRow B e size v n xs := h

set_option maxHeartbeats 2000000 in
theorem share_walk (sum : Nat) (a : Option Addr) (n cap : Nat) (ws : List Nat) (hs : sum < 18446744073709551616) (hb : ∀ d ∈ ws, d < 18446744073709551616) (hn : n ≤ 1048576) (w : World) (h : Sl .u64 w a n cap ws) :
    Calls Try.prog 29 #[.int .u64 sum, .slice a n cap] w (ShareRes w sum ws) := by
  have HL := hid h.len
  have tw := fun wx (hx : Sl .u64 wx a n cap ws) => hid (stotal_walk a n cap ws hb wx hx)
  by_cases hf : ws.sum < 18446744073709551616
  · by_cases h0 : ws.sum = 0
    · have F := hid (show ShareRes w sum ws (.returned (.tuple #[.slice none 0 0, .int .i64 12])) w from ⟨Below.refl _ _, fun h => absurd hf h, fun _ => rfl, fun h => by omega⟩)
      have TV := hid (totV_yes hf)
      rw [h0] at TV
      clear h0
      go_enter Try.func29, Try.ntmps29
      go_wp2_with fail
      refine ((tw w h).out).mono ?_
      rintro e w' ⟨rfl, rfl⟩
      rw [TV.out]
      go_wp2
      go_ret2
      exact F.out
    · have F := fun v wx (hx : Below w.heap.size w wx) (hv : SlV .u64 wx v (arr ws.length (finAt sum ws.sum ws))) => hid (show ShareRes w sum ws (.returned (.tuple #[v, .int .i64 0])) wx from ⟨hx, fun h => absurd hf h, fun h => absurd h h0, fun _ _ => ⟨v, rfl, hv⟩⟩)
      have TV := hid (totV_yes hf)
      have hpos : 0 < ws.sum := by omega
      have PV := fun k => hid (part_p hs hpos k)
      have PW := fun k wx => hid (part_walk sum (wAt ws k) ws.sum false hs (getD_mem_lt hb (by omega) k) hf wx)
      have PL := fun k => pAt_le (sum := sum) (ws := ws) k
      have PS := fun k => part_sum_le (sum := sum) (ws := ws) hpos rfl (k := k)
      have WL := fun k => getD_mem_lt hb (show 0 < 18446744073709551616 by decide) k
      have hall0 : ((ws.sum : Int) == 0) = false := by simp; omega
      have FL := hid (fun k hk => fin_le (sum := sum) (ws := ws) hpos rfl (k := k) hk)
      generalize ws.sum = all at *
      go_enter Try.func29, Try.ntmps29
      go_wp2_with fail
      refine ((tw w h).out).mono ?_
      rintro e w0 ⟨rfl, rfl⟩
      rw [TV.out]
      clear tw TV
      have H := hid h
      have PLh := hid PL; have PSh := hid PS; have WLh := hid WL; have Fh := hid F; have PVh := hid PV; have PWh := hid PW
      clear h PL PS WL F PV PW
      go_wp2_with (at_make; refine wpList_mk rfl (.tmp 25) (.tmp 25) 35 rfl tyU64s' rfl w.heap.size n rfl rfl rfl rfl (by omega) (by decide) (Nat.le_refl _) ?_)
      intro w1 hown1 hb1 hs1
      rw [← nums_replicate, ← pre_zero sum all ws] at hown1
      go_wp2
      go_loopw [9, 30] (fun l0 i0 wr => ∃ k : Nat, k ≤ n ∧ i0 = .int .i64 k ∧ l0 = .int .u64 ((sum - (arr k (pAt sum all ws)).sum : Nat) : Int) ∧ wr.ownsRow w.heap.size 22 1 (.slice (some ⟨w.heap.size, 0, none⟩) n n) n (nums .u64 (arr n (preAt sum all ws k))) ∧ Below w.heap.size w wr) (fun _ i0 _ => n - (intOf i0).toNat)
      case atStart => exact ⟨0, by omega, rfl, rfl, hown1, hb1⟩
      case round =>
        clear hown1 hb1 hs1
        obtain ⟨k, hk, rfl, rfl, hown, hbw⟩ := hrel
        by_cases hlt : k < n
        · obtain ⟨b, off, ha, hc⟩ := (H.out.below hbw).opened
          have hcx := hc k hlt
          obtain rfl := ha (by omega)
          have hd := WLh.out k
          have e1 : ws.getD k 0 = wAt ws k := rfl
          rw [e1] at hcx hd
          have pv := PVh.out k
          have pw := PWh.out k
          have pl := PLh.out k
          have ps := PSh.out (k + 1) (by rw [HL.out]; omega)
          rw [arr_sum_succ] at ps
          have hsub := hid (show sum - (arr (k + 1) (pAt sum all ws)).sum = sum - (arr k (pAt sum all ws)).sum - pAt sum all ws k by rw [arr_sum_succ]; omega)
          have hoc := own_cell hown k hlt
          have hof := hown.frozenAt k
          have hst := hid (fun q => own_store (own_drewN hown q) k (z := ((pAt sum all ws k : Nat) : Int)) (d := pAt sum all ws k) rfl)
          generalize (arr n (preAt sum all ws k)).getD k 0 = old at *
          have hset := hid (pre_set (sum := sum) (all := all) (ws := ws) (n := n) (k := k))
          generalize hp : pAt sum all ws k = p at *
          generalize hwk : wAt ws k = wk at *
          generalize hsm : (arr k (pAt sum all ws)).sum = sm at *
          clear hp hwk hsm e1 hc
          have hle1 : p ≤ sum - sm := by omega
          have hlfb : sum - sm < 18446744073709551616 := by omega
          have hcs : ((sum - sm : Nat) : Int) - (p : Int) = ((sum - sm - p : Nat) : Int) := by omega
          have HCS := hid hcs
          have HPS := hid ps
          clear hcs ps
          generalize sum - sm = lf at *
          go_wp2_with fail
          refine ((pw _).out).mono ?_
          rintro e w2 ⟨rfl, q, rfl⟩
          rw [pv.out]
          go_wp2
          have hs1 := hst.out q
          rw [hset.out] at hs1
          have hw1 : Below w.heap.size (wr.drewN q) ((wr.drewN q).setCell ⟨w.heap.size, k, none⟩ (.int .u64 (p : Int))) := hs1.2
          go_roundw
          case rel => exact ⟨k + 1, by omega, by go_num, by rw [hsub.out, ← HCS.out], hs1.1, (below_drewN hbw q).trans hw1⟩
          case measure => simp [intOf]; omega
        · obtain rfl : n = k := by omega
          have hz := hid (show arr n (preAt sum all ws n) = arr n (midAt sum all ws 0) by have := pre_full sum all ws; rw [HL.out] at this; exact this)
          rw [hz.out] at hown
          have hl0 := hid (show sum - (arr n (pAt sum all ws)).sum = lft sum all ws - pos ws 0 by
            have e : pos ws 0 = 0 := rfl
            rw [e, Nat.sub_zero]; unfold lft; rw [HL.out])
          rw [hl0.out]
          go_wp2
          go_loopw [9, 54] (fun l0 i0 wr => ∃ k : Nat, k ≤ n ∧ i0 = .int .i64 k ∧ l0 = .int .u64 ((lft sum all ws - pos ws k : Nat) : Int) ∧ wr.ownsRow w.heap.size 22 1 (.slice (some ⟨w.heap.size, 0, none⟩) n n) n (nums .u64 (arr n (midAt sum all ws k))) ∧ Below w.heap.size w wr) (fun _ i0 _ => n - (intOf i0).toNat)
          case atStart => exact ⟨0, by omega, rfl, rfl, hown, hbw⟩
          case round =>
            clear hown hbw
            obtain ⟨k, hk, rfl, rfl, hown, hbw⟩ := hrel
            by_cases hlt : k < n
            · obtain ⟨b, off, ha, hc⟩ := (H.out.below hbw).opened
              have hcx := hc k hlt
              obtain rfl := ha (by omega)
              have hd := WLh.out k
              have e1 : ws.getD k 0 = wAt ws k := rfl
              rw [e1] at hcx hd
              have pl := PLh.out k
              have fl := FL.out k (by rw [HL.out]; exact hlt)
              have hps := pos_succ ws k
              have hLb : lft sum all ws - pos ws k < 18446744073709551616 := by unfold lft; omega
              have hoc := own_cell hown k hlt
              have em : midAt sum all ws k k = pAt sum all ws k := by unfold midAt; rw [if_neg (by omega)]
              rw [arr_getD _ hlt, em] at hoc
              have hof := hown.frozenAt k
              have hfin := hid (show finAt sum all ws k = pAt sum all ws k + (if 0 < wAt ws k ∧ pos ws k < lft sum all ws then 1 else 0) from rfl)
              have hset := hid (show (arr n (midAt sum all ws k)).set k (finAt sum all ws k) = arr n (midAt sum all ws (k + 1)) by have := mid_set (sum := sum) (all := all) (ws := ws) (k := k); rw [HL.out] at this; exact this)
              have hsame := hid (fun hq : finAt sum all ws k = pAt sum all ws k => (show arr n (midAt sum all ws k) = arr n (midAt sum all ws (k + 1)) by have := mid_same hq; rw [HL.out] at this; exact this))
              have hst := hid (fun (z : Int) (d : Nat) (hz : z = (d : Int)) => own_store hown k hz)
              generalize hp : pAt sum all ws k = p at *
              generalize hwk : wAt ws k = wk at *
              generalize hL : lft sum all ws = L at *
              have HPS := hid hps
              clear hp hwk e1 hc em hL hps
              by_cases hg : 0 < wk ∧ pos ws k < L
              · obtain ⟨hg1, hg2⟩ := hg
                have hlf : 0 < L - pos ws k := by omega
                have hpn := hid (show L - pos ws (k + 1) = L - pos ws k - 1 by rw [HPS.out, if_pos hg1]; omega)
                have hf1 := hfin.out
                rw [if_pos ⟨hg1, hg2⟩] at hf1
                have HF1 := hid hf1
                have hp1 : p + 1 ≤ sum := by omega
                have hs1 := hid (hst.out ((p : Int) + 1) (p + 1) (by omega))
                clear hf1 hfin hsame hst hg2
                generalize L - pos ws k = lf at *
                go_wp2
                have hs2 := hs1.out
                rw [← HF1.out, hset.out] at hs2
                go_roundw
                case rel => exact ⟨k + 1, by omega, by go_num, by rw [hpn.out]; go_num, hs2.1, hbw.trans hs2.2⟩
                case measure => simp [intOf]; omega
              · have hf1 := hfin.out
                rw [if_neg hg] at hf1
                have hsm := hid (hsame.out hf1)
                have hpn := hid (show L - pos ws (k + 1) = L - pos ws k by rw [HPS.out]; by_cases h0 : 0 < wk <;> simp [h0] <;> omega)
                clear hf1 hfin hsame hst hset
                have hg' : ¬ 0 < wk ∨ ¬ 0 < L - pos ws k := by omega
                clear hg
                generalize L - pos ws k = lf at *
                by_cases hw0 : 0 < lf
                · have hwz : ¬ 0 < wk := by omega
                  clear hg'
                  go_wp2
                  go_roundw
                  case rel => exact ⟨k + 1, by omega, by go_num, by rw [hpn.out], by rw [← hsm.out]; exact hown, hbw⟩
                  case measure => simp [intOf]; omega
                · clear hg'
                  go_wp2
                  go_roundw
                  case rel => exact ⟨k + 1, by omega, by go_num, by rw [hpn.out], by rw [← hsm.out]; exact hown, hbw⟩
                  case measure => simp [intOf]; omega
            · obtain rfl : n = k := by omega
              have hz := hid (show arr n (midAt sum all ws n) = arr ws.length (finAt sum all ws) by have := mid_full sum all ws; rw [HL.out] at this ⊢; exact this)
              rw [hz.out] at hown
              have FF := Fh.out _ wr hbw (SlV.of_owns hown)
              go_wp2
              go_ret2
              exact FF.out
  · have F := hid (show ShareRes w sum ws (.returned (.tuple #[.slice none 0 0, .int .i64 10])) w from ⟨Below.refl _ _, fun _ => rfl, fun h => by omega, fun _ h => absurd h hf⟩)
    have TV := hid (totV_no hf)
    go_enter Try.func29, Try.ntmps29
    go_wp2_with fail
    refine ((tw w h).out).mono ?_
    rintro e w' ⟨rfl, rfl⟩
    rw [TV.out]
    go_wp2
    go_ret2
    exact F.out
end Go.Proofs.Ytfiaallnnpcbmaa

/- The walks of share (the document's example) and of the statement SumsWhole. -/
import Derived.Test.YtfiaallnnpcbmaaShare
namespace Go.Proofs.Ytfiaallnnpcbmaa
open Go.RowKit

def TrueB (w : World) (e : Ending) (w' : World) : Prop := e = .returned (.bool true) ∧ Below w.heap.size w w'
theorem share_ex : arr 3 (finAt 10 3 [1, 1, 1]) = [4, 3, 3] := by decide

set_option maxHeartbeats 1000000 in
theorem sharefn_walk (w : World) : Calls Try.prog 28 #[] w (TrueB w) := by
  have S1 := hid (sl_lit .u64 w #[.int .u64 1, .int .u64 1, .int .u64 1] 22 [1, 1, 1] rfl rfl (by decide))
  have b1 := (Below.refl w.heap.size w).alloc (Nat.le_refl _) (.cells #[.int .u64 1, .int .u64 1, .int .u64 1] 22)
  go_enter Try.func28, Try.ntmps28
  go_wp2_with fail
  refine (share_walk 10 _ _ _ [1, 1, 1] (by decide) (by simp) (by simp) _ S1.out).mono ?_
  rintro e w1 ⟨b2, _, _, h3⟩
  obtain ⟨v, rfl, hv⟩ := h3 (by decide) (by decide)
  have hv2 : SlV .u64 w1 v [4, 3, 3] := hv
  obtain ⟨a2, c2, rfl, s2⟩ := hv2
  have bb := b1.trans (b2.mono b1.size)
  have hl : ([4, 3, 3] : List Nat).length = 3 := rfl
  rw [hl] at s2 ⊢
  obtain ⟨b, off, ha, hc⟩ := s2.opened
  obtain rfl := ha (by omega)
  have c0 := hc 0 (by omega)
  have c1 := hc 1 (by omega)
  have c2' := hc 2 (by omega)
  rw [Nat.add_zero] at c0
  have C0 : w1.cell? ⟨b, off, none⟩ = some (.int .u64 4) := c0
  have C1 : w1.cell? ⟨b, off + 1, none⟩ = some (.int .u64 3) := c1
  have C2 : w1.cell? ⟨b, off + 2, none⟩ = some (.int .u64 3) := c2'
  clear c0 c1 c2' hc ha s2 hv h3 S1 b1 b2 hl
  go_wp2
  go_ret
  exact ⟨rfl, bb⟩

theorem share_near {sum all : Nat} {ws : List Nat} {k i : Nat} (hki : k ≤ i) (hw : wAt ws k = wAt ws i) : finAt sum all ws k = finAt sum all ws i ∨ finAt sum all ws k = finAt sum all ws i + 1 := by
  have hp : pAt sum all ws k = pAt sum all ws i := by unfold pAt; rw [hw]
  have hm := pos_mono ws hki
  unfold finAt
  rw [hp, hw]
  by_cases h1 : 0 < wAt ws i ∧ pos ws i < lft sum all ws
  · rw [if_pos h1, if_pos ⟨h1.1, by omega⟩]; exact .inl rfl
  · rw [if_neg h1]
    by_cases h2 : 0 < wAt ws i ∧ pos ws k < lft sum all ws
    · rw [if_pos h2]; exact .inr rfl
    · rw [if_neg h2]; exact .inl rfl
theorem fin_nought {sum all : Nat} {ws : List Nat} {i : Nat} (h : wAt ws i = 0) : finAt sum all ws i = 0 := by
  unfold finAt pAt; rw [h]; simp
theorem fin_sum_le {sum all : Nat} {ws : List Nat} (ha : 0 < all) (hs : ws.sum = all) {k : Nat} (hk : k ≤ ws.length) : (arr k (finAt sum all ws)).sum ≤ sum := by
  have h : ∀ m, k ≤ m → (arr k (finAt sum all ws)).sum ≤ (arr m (finAt sum all ws)).sum := by
    intro m
    induction m with
    | zero => intro h; have : k = 0 := by omega
              subst this; exact Nat.le_refl _
    | succ m ih =>
      intro h
      rw [arr_sum_succ]
      by_cases hkm : k ≤ m
      · have := ih hkm; omega
      · have : k = m + 1 := by omega
        subst this; rw [arr_sum_succ]; exact Nat.le_refl _
  have := h ws.length hk
  rw [whole ha hs] at this
  exact this

set_option maxHeartbeats 4000000 in
set_option maxRecDepth 100000 in
theorem lawWhole (sum : Nat) (a : Option Addr) (n cap : Nat) (ws : List Nat) (hs : sum < 18446744073709551616) (hb : ∀ d ∈ ws, d < 18446744073709551616) (w : World) (h : Sl .u64 w a n cap ws) :
    Calls Try.prog 12 #[.int .u64 sum, .slice a n cap] w fun e w' => e = .returned (.bool true) ∧ Below w.heap.size w w' := by
  by_cases hn : 40 < n
  · go_enter Try.func12, Try.ntmps12
    go_wp2_with fail
    refine (sharefn_walk _).mono ?_
    rintro e w1 ⟨rfl, b1⟩
    go_wp2
    go_ret
    exact ⟨rfl, b1⟩
  · have sw := fun wx (hx : Sl .u64 wx a n cap ws) => hid (share_walk sum a n cap ws hs hb (by omega) wx hx)
    have HL := hid h.len
    have H := hid h
    clear h
    by_cases hf : ws.sum < 18446744073709551616
    · by_cases h0 : ws.sum = 0
      · have h0' := hid h0
        clear h0
        go_enter Try.func12, Try.ntmps12
        go_wp2_with fail
        refine (sharefn_walk _).mono ?_
        rintro e w1 ⟨rfl, b1⟩
        go_wp2_with fail
        refine ((sw w1 (H.out.below b1)).out).mono ?_
        rintro e w2 ⟨b2, _, g2, _⟩
        obtain rfl := g2 h0'.out
        clear sw
        go_wp2
        go_ret
        exact ⟨rfl, bstep b1 b2⟩
      · have hpos : 0 < ws.sum := by omega
        have FN := hid (fun k i (hki : k ≤ i) => share_near (sum := sum) (all := ws.sum) (ws := ws) hki)
        have FZ := hid (fun i => fin_nought (sum := sum) (all := ws.sum) (ws := ws) (i := i))
        have FS := hid (fun k hk => fin_sum_le (sum := sum) (ws := ws) hpos rfl (k := k) hk)
        have FB := hid (fun k hk => fin_le (sum := sum) (ws := ws) hpos rfl (k := k) hk)
        have FW := hid (whole (sum := sum) (ws := ws) hpos rfl)
        have WL := hid (fun k => getD_mem_lt hb (show 0 < 18446744073709551616 by decide) k)
        go_enter Try.func12, Try.ntmps12
        go_wp2_with fail
        refine (sharefn_walk _).mono ?_
        rintro e w1 ⟨rfl, b1⟩
        go_wp2_with fail
        refine ((sw w1 (H.out.below b1)).out).mono ?_
        rintro e w2 ⟨b2, _, _, g2⟩
        obtain ⟨v, rfl, hv⟩ := g2 hpos hf
        clear sw g2
        generalize ws.sum = all at *
        rw [HL.out] at hv
        obtain ⟨ax, cx, rfl, sx⟩ := hv
        rw [arr_length] at sx ⊢
        have hb12 := bstep b1 b2
        have sw2 := H.out.below hb12
        clear b1 b2
        obtain ⟨bw, ow, haw, hcw⟩ := sw2.opened
        obtain ⟨bx, ox, hax, hcx⟩ := sx.opened
        have hcx' : ∀ j, j < n → w2.cell? ⟨bx, ox + j, none⟩ = some (.int .u64 ((finAt sum all ws j : Nat) : Int)) := fun j hj => by rw [hcx j hj, arr_getD _ hj]
        have hcw' : ∀ j, j < n → w2.cell? ⟨bw, ow + j, none⟩ = some (.int .u64 ((wAt ws j : Nat) : Int)) := hcw
        have HX := hid hcx'
        have HW := hid hcw'
        clear hcx hcw hcx' hcw' sw2 sx H
        go_wp2
        go_loopw [7, 42] (fun l0 i0 wr => ∃ i : Nat, i ≤ n ∧ i0 = .int .i64 i ∧ l0 = .int .u64 ((sum - (arr i (finAt sum all ws)).sum : Nat) : Int) ∧ Qt w2 wr) (fun _ i0 _ => n - (intOf i0).toNat)
        case atStart => exact ⟨0, by omega, rfl, rfl, Qt.refl _⟩
        case round =>
          obtain ⟨i, hi, rfl, rfl, q, rfl⟩ := hrel
          by_cases hlt : i < n
          · obtain rfl := haw (by omega)
            obtain rfl := hax (by omega)
            have cx0 := HX.out i hlt
            have cw0 := HW.out i hlt
            have fs := FS.out (i + 1) (by rw [HL.out]; omega)
            rw [arr_sum_succ] at fs
            have hsub := hid (show sum - (arr (i + 1) (finAt sum all ws)).sum = sum - (arr i (finAt sum all ws)).sum - finAt sum all ws i by rw [arr_sum_succ]; omega)
            have fz := FZ.out i
            have xle : finAt sum all ws i ≤ sum - (arr i (finAt sum all ws)).sum := by omega
            have lfb : sum - (arr i (finAt sum all ws)).sum < 18446744073709551616 := by omega
            have fn := hid (fun k (hk : k ≤ i) => FN.out k i hk)
            have wl := WL.out i
            rw [show ws.getD i 0 = wAt ws i from rfl] at wl
            clear fs
            generalize hxi : finAt sum all ws i = xi at *
            generalize hwi : wAt ws i = wi at *
            generalize sum - (arr i (finAt sum all ws)).sum = lf at *
            clear hxi hwi
            have hz : (((wi : Int) == 0) = false) ∨ (((wi : Int) == 0) = true ∧ ((xi : Int) != 0) = false) := by
              by_cases h : wi = 0
              · have := fz h; subst h; subst this; exact .inr ⟨rfl, rfl⟩
              · exact .inl (by simp; exact h)
            have hgt : ¬ (lf : Int) < (xi : Int) := by omega
            clear fz
            rcases hz with hz | ⟨hz, hz2⟩
            all_goals
              go_wp2
              go_loopw [9] (fun k0 wr => ∃ k : Nat, k ≤ i ∧ k0 = .int .i64 k ∧ Qt w2 wr) (fun k0 _ => i - (intOf k0).toNat)
              case atStart => exact ⟨0, by omega, rfl, q, rfl⟩
              case round =>
                obtain ⟨k, hk, rfl, q', rfl⟩ := hrel
                by_cases hlk : k < i
                · have cx1 := HX.out k (by omega)
                  have cw1 := HW.out k (by omega)
                  have near := fn.out k hk
                  have xkb := FB.out k (by rw [HL.out]; omega)
                  have hne : ∀ z : Int, z = (xi : Int) + 1 → (z != (xi : Int)) = true := fun z h => by simp; omega
                  generalize finAt sum all ws k = xk at *
                  generalize wAt ws k = wk at *
                  by_cases hww : wk = wi
                  · have near := near hww
                    have g1 : ((wk : Int) == (wi : Int)) = true := by simp; omega
                    clear hww hne
                    rcases near with near | near
                    · have g2 : ((xk : Int) != (xi : Int)) = false := by simp; omega
                      clear near
                      go_wp2
                      go_quiet (fail)
                      go_wp2
                      go_roundw
                      case rel => exact ⟨k + 1, by omega, by go_num, _, rfl⟩
                      case measure => simp [intOf]; omega
                    · have g2 : ((xk : Int) != (xi : Int)) = true := by simp; omega
                      have g3 : ((xk : Int) != (xi : Int) + 1) = false := by simp; omega
                      have g4 : IntKind.u64.wrap ((xi : Int) + 1) = (xi : Int) + 1 := by rw [IntKind.wrap_u64]; omega
                      clear near
                      go_wp2
                      go_quiet (fail)
                      go_wp2
                      go_roundw
                      case rel => exact ⟨k + 1, by omega, by go_num, _, rfl⟩
                      case measure => simp [intOf]; omega
                  · have g1 : ((wk : Int) == (wi : Int)) = false := by simp; omega
                    clear near hww hne
                    go_wp2
                    go_quiet (fail)
                    go_wp2
                    go_roundw
                    case rel => exact ⟨k + 1, by omega, by go_num, _, rfl⟩
                    case measure => simp [intOf]; omega
                · obtain rfl : i = k := by omega
                  go_wp2
                  go_roundw
                  case rel => exact ⟨i + 1, by omega, by go_num, by rw [hsub.out]; go_num, _, rfl⟩
                  case measure => simp [intOf]; omega
          · obtain rfl : n = i := by omega
            have hz := hid (show sum - (arr n (finAt sum all ws)).sum = 0 by have := FW.out; rw [HL.out] at this; omega)
            rw [hz.out]
            go_wp2
            go_ret
            exact ⟨rfl, below_drewN hb12 q⟩
    · have hf' := hid hf
      clear hf
      go_enter Try.func12, Try.ntmps12
      go_wp2_with fail
      refine (sharefn_walk _).mono ?_
      rintro e w1 ⟨rfl, b1⟩
      go_wp2_with fail
      refine ((sw w1 (H.out.below b1)).out).mono ?_
      rintro e w2 ⟨b2, g2, _, _⟩
      obtain rfl := g2 hf'.out
      clear sw
      go_wp2
      go_ret
      exact ⟨rfl, bstep b1 b2⟩
end Go.Proofs.Ytfiaallnnpcbmaa

/- The walk of the statement TlvDecodes. -/
import Derived.Test.YtfcnpmkpdikgeaaDecR
import Derived.Test.YtfcnpmkpdikgeaaWr
import Derived.Laws.BitsAllLaws
namespace Go.Proofs.Ytfcnpmkpdikgeaa
open Go.RowKit

/-- bytes of the call's own, whatever they are -/
def BB (w : World) (B : Nat) (l : LR) : Prop := ∃ xs : List Nat, xs.length = l.v.length ∧ (∀ d ∈ xs, d < 256) ∧ w.ownsRow B 5 1 (.slice l.a l.v.length l.c) l.v.length (nums .u8 xs)
theorem BB.store {w : World} {B : Nat} {l : LR} (h : BB w B l) {g n c : Nat} {ys : List Value} (k : w.ownsRow B 5 1 (.slice (some ⟨g, 0, none⟩) n c) n ys) (j z : Nat) (hz : z < 256) : BB (w.setCell ⟨g, j, none⟩ (.int .u8 (z : Int))) B l := by
  obtain ⟨xs, h1, h2, h3⟩ := h
  have h3' := h3
  rcases h3.2 with hn | ⟨g0, cap, cur, hv, hb, hg, rest⟩
  · exact ⟨xs, h1, h2, h3.1, .inl hn⟩
  · by_cases e : g0 = g
    · subst e
      rw [hv] at h3'
      refine ⟨xs.set j z, by simpa using h1, fun d hd => ?_, ?_⟩
      · rcases List.mem_or_eq_of_mem_set hd with h | h
        · exact h2 d h
        · omega
      · rw [hv]
        exact (own_store h3' j rfl).1
    · refine ⟨xs, h1, h2, h3.1, .inr ⟨g0, cap, cur, hv, hb, ?_, rest⟩⟩
      rw [(k.stored j (.int .u8 (z : Int))).2.block g0 (Array.getElem?_eq_some_iff.1 hg).1 (by simpa using e)]
      exact hg
theorem own_addr {w : World} {B : Nat} {e : TypeId} {size n m cap : Nat} {a : Option Addr} {xs : List Value} (h : w.ownsRow B e size (.slice a n cap) m xs) (hn : 0 < n) : ∃ g, a = some ⟨g, 0, none⟩ ∧ n ≤ cap := by
  rcases h.2 with ⟨h', _⟩ | ⟨g, cap', cur, h', _, _, hnc, _⟩
  · simp at h'; omega
  · simp at h'
    obtain ⟨rfl, rfl, rfl⟩ := h'
    exact ⟨g, rfl, hnc⟩
theorem xor255 {d : Nat} (h : d < 256) : bits .xor .u8 (d : Int) 255 = ((d ^^^ 255 : Nat) : Int) := u8_xor_nat d 255 h (by decide)
theorem ex_dec : decS [1, 1, 7] = ([(1, [7])], 0) := by decide
set_option maxRecDepth 100000 in
set_option maxHeartbeats 4000000 in
theorem lawDecodes (a : Option Addr) (n cap : Nat) (bs : List Nat) (hbs : ∀ d ∈ bs, d < 256) (hz : n * 1 ≤ 140737488351232) (w : World) (h : Sl .u8 w a n cap bs) :
    Calls Try.prog 8 #[.slice a n cap] w fun e w' => e = .returned (.bool true) ∧ Below w.heap.size w w' := by
  have HL := hid h.len
  have HI := hid h
  have HX := hid hbs
  have hn0 : n ≤ 140737488351232 := by omega
  have EX := hid ex_dec
  clear h hz hbs
  go_enter Try.func8, Try.ntmps8
  go_wp2_with fail
  refine (encodefn_walk _).mono ?_
  rintro e w1 ⟨rfl, b1⟩
  have S1 := hid (sl_lit .u8 w1 #[.int .u8 1, .int .u8 1, .int .u8 7] 5 [1, 1, 7] rfl rfl (by decide))
  have bb := (Below.refl w1.heap.size w1).alloc (Nat.le_refl _) (.cells #[.int .u8 1, .int .u8 1, .int .u8 7] 5)
  have B1 := hid (bstep b1 bb)
  clear b1 bb
  go_wp2_with fail
  refine (dec_walk _ _ _ [1, 1, 7] (by simp) (by decide) _ S1.out).mono ?_
  rintro e w2 ⟨v2, ls, rfl, ⟨a2, c2, rfl, r2⟩, hls, hl256, b2⟩
  rw [EX.out] at hls ⊢
  simp only at hls ⊢
  have B2 := hid (bstep B1.out b2)
  have S2 := hid (HI.out.below B2.out)
  obtain ⟨l, rfl⟩ : ∃ l, ls = [l] := by
    match ls, hls with
    | [l], _ => exact ⟨l, rfl⟩
    | [], h => simp at h
    | _ :: _ :: _, h => simp at h
  have hlt : l.t = 1 := by
    have : l.pr = (1, [7]) := by simpa using hls
    exact congrArg Prod.fst this
  obtain ⟨b', off', rfl, c0, _, _⟩ := r2.cells (j := 0) (l := l) rfl
  rw [hlt] at c0
  simp only [Nat.zero_mul, Nat.add_zero] at c0
  have hc0 := hid c0
  clear b2 r2 hls hlt S1 B1 c0
  have hc0 := hc0.out
  by_cases hn : n ≤ 5000
  · have t1 : decide ((n : Int) > 5000) = false := by rw [decide_eq_false_iff_not]; omega
    go_wp2_with fail
    clear hc0
    refine (copy_walk _ _ _ bs (by omega) _ S2.out).mono ?_
    rintro e w3 ⟨v3, rfl, hne3, own3, b3⟩
    obtain ⟨a3, c3, rfl, r3⟩ := Rd.of_owns own3
    have S3 := hid (S2.out.below b3)
    have B3 := hid (bstep B2.out b3)
    have M3 := hid (show Sl .u8 w3 a3 bs.length c3 bs from r3)
    clear own3 b3 hne3 r3 S2 B2
    go_wp2_with fail
    refine (dec_walk2 _ _ _ bs HX.out (by have := HL.out; omega) _ M3.out).mono ?_
    rintro e w4 ⟨v4, ls, rfl, ⟨a4, c4, rfl, r4⟩, hls4, hl4, b4, o4, g4⟩
    have HLS4 := hid hls4
    have S4 := hid (S3.out.below b4)
    have b4' := hid b4
    have O4 := hid o4
    have G4 := hid g4
    have R4 := hid r4
    have HX7 := hid (fun l hl => (r4.2.2 l hl).2.2.1)
    have HL7 := hid (fun l hl => (r4.2.2 l hl).2.2.2)
    have hlsb : ls.length ≤ 1000000 := by omega
    clear hls4 b4 o4 g4 r4
    go_wp2_with fail
    refine (rdec_walk _ _ _ bs HX.out hn0 _ S4.out).mono ?_
    rintro e w5 ⟨v5, ls5, rfl, ⟨a5, c5, rfl, r5⟩, hls5, hl5, b5, _, _⟩
    have EQ := hid (show decide (ls.map LR.pr = ls5.map LR.pr) = true by rw [decide_eq_true_eq, hls5]; exact HLS4.out)
    have b5' := hid (b4'.out.trans (b5.mono b4'.out.size))
    have O5 := hid (own_below O4.out b5)
    have G5 := hid (fun l hl => own_below (G4.out l hl) b5)
    have R5 := hid (R4.out.below b5)
    have P5 := hid r5
    clear b5 r5 S4 b4' O4 G4 R4 hls5 HLS4
    have te : ∀ z : Nat, ((z : Int) != (z : Int)) = false := fun z => by simp
    generalize (decS bs).2 = er at *
    go_wp2_with fail
    clear te
    refine (plain_walk a4 _ c4 ls hlsb _ R5.out).mono ?_
    rintro e w6 ⟨v6, rfl, ⟨a6, c6, rfl, r6⟩, b6⟩
    have b6' := hid (b5'.out.trans (b6.mono b5'.out.size))
    have O6 := hid (own_below O5.out b6)
    have G6 := hid (fun l hl => own_below (G5.out l hl) b6)
    have P6 := hid (P5.out.below b6)
    have Q6 := hid r6
    clear b6 r6 b5' O5 G5 P5 R5
    go_wp2_with fail
    refine (sameall_walk a6 _ c6 ls a5 _ c5 ls5 hlsb _ Q6.out P6.out).mono ?_
    rintro e w7 ⟨rfl, q7⟩
    rw [EQ.out]
    have b7 := q7.below w6.heap.size
    have b7' := hid (b6'.out.trans (b7.mono b6'.out.size))
    have O7 := hid (own_below O6.out b7)
    have G7 := hid (fun l hl => own_below (G6.out l hl) b7)
    clear b7 q7 b6' O6 G6 P6 Q6
    go_wp2
    go_loopw [67] (fun i0 wr => ∃ i : Nat, i ≤ ls.length ∧ i0 = .int .i64 i ∧ Below w3.heap.size w3 wr ∧ wr.ownsRow w3.heap.size 39 2 (.slice a4 ls.length c4) ls.length (ls.flatMap LR.cells) ∧ ∀ l ∈ ls, BB wr w3.heap.size l) (fun i0 _ => ls.length - (intOf i0).toNat)
    case atStart => exact ⟨0, by omega, rfl, b7'.out, O7.out, fun l hl => ⟨l.v, rfl, HX7.out l hl, G7.out l hl⟩⟩
    case round =>
      obtain ⟨i, hi, rfl, hb, ho, hg⟩ := hrel
      clear b7' O7 G7
      by_cases hil : i < ls.length
      · obtain ⟨l, hl⟩ := get_some rfl hil
        obtain ⟨g, rfl, hgc⟩ := own_addr ho (by omega)
        obtain ⟨f1, f2⟩ := flat_get hl
        have c1 := ho.cellAt (i * 2 + 1) (by omega)
        rw [f2] at c1
        have hmem := hid (List.mem_of_getElem? hl)
        have HF2 := hid f2
        have HB := hid hb
        have HO := hid ho
        have HG := hid hg
        have hlb := HL7.out l hmem.out
        obtain ⟨lt, la, lc, lv⟩ := l
        simp only at c1 HF2 hlb
        clear hl f1 f2 hb ho hg
        generalize wr = W0 at *
        go_wp2
        clear c1
        go_loopw [76] (fun k0 wr => ∃ k : Nat, k ≤ lv.length ∧ k0 = .int .i64 k ∧ Below w3.heap.size w3 wr ∧ wr.ownsRow w3.heap.size 39 2 (.slice (some ⟨g, 0, none⟩) ls.length c4) ls.length (ls.flatMap LR.cells) ∧ ∀ l ∈ ls, BB wr w3.heap.size l) (fun k0 _ => lv.length - (intOf k0).toNat)
        case atStart => exact ⟨0, by omega, rfl, HB.out, HO.out, HG.out⟩
        case round =>
          obtain ⟨k, hk, rfl, hb, ho, hg⟩ := hrel
          clear HB HO HG
          by_cases hkl : k < lv.length
          · obtain ⟨xs, x1, x2, x3⟩ := hg _ hmem.out
            simp only at x1 x3
            obtain ⟨g2, rfl, hgc2⟩ := own_addr x3 (by omega)
            have hd : xs.getD k 0 < 256 := by
              rw [List.getD_eq_getElem?_getD, List.getElem?_eq_getElem (by omega)]
              exact x2 _ (List.getElem_mem _)
            have c2 := x3.cellAt k (by omega)
            rw [nums_get .u8 (by omega)] at c2
            have hfr := x3.frozenAt k
            have c1 := ho.cellAt (i * 2 + 1) (by omega)
            rw [HF2.out] at c1
            generalize hdd : xs.getD k 0 = d at *
            have hx := xor255 hd
            have hxl : d ^^^ 255 < 256 := Nat.xor_lt_two_pow (n := 8) hd (by decide)
            have HS1 := hid (fun l' hl' => (hg l' hl').store x3 k (d ^^^ 255) hxl)
            have HS2 := hid (own_grew ho x3 (by decide) (x3.stored k (.int .u8 ((d ^^^ 255 : Nat) : Int))).2)
            have HS3 := hid (hb.trans (own_store x3 k (z := ((d ^^^ 255 : Nat) : Int)) (d := d ^^^ 255) rfl).2)
            clear hdd x1 x2 x3 hb ho hg
            go_wp2
            go_roundw
            case rel => exact ⟨k + 1, by omega, by go_num, HS3.out, HS2.out, HS1.out⟩
            case measure => simp [intOf]; omega
          · have HB := hid hb
            have HO := hid ho
            have HG := hid hg
            clear hb ho hg
            go_wp2
            go_roundw
            case rel => exact ⟨i + 1, by omega, by go_num, HB.out, HO.out, HG.out⟩
            case measure => simp [intOf]; omega
      · have BF := hid (bstep B3.out hb)
        have MF := hid (M3.out.below hb)
        have SF := hid (S3.out.below hb)
        clear hb ho hg
        go_wp2_with fail
        refine (same_self _ _ _ _ _ _ bs HX.out _ MF.out SF.out).mono ?_
        rintro e w8 ⟨rfl, rfl⟩
        go_wp2
        go_ret
        exact ⟨rfl, BF.out⟩
  · have t1 : decide ((n : Int) > 5000) = true := by rw [decide_eq_true_eq]; omega
    go_wp2
    go_ret
    exact ⟨rfl, B2.out⟩
end Go.Proofs.Ytfcnpmkpdikgeaa

/- The walk of the statement SecretsReads. -/
import Derived.Test.YtnfklnbdebcpiaaDoorSecs
namespace Go.Proofs.YtnfklnbdebcpiaaDoor
open Go.RowKit

set_option maxRecDepth 100000 in
set_option maxHeartbeats 4000000 in
theorem put_many (cb n : Nat) (Kp : KM) (s : List Nat) (hn : 281474976710655 < n) (w : World) (h : ChAt w cb Kp n) :
    Calls Tryd.prog 13 #[.pointer (some ⟨cb, 0, none⟩), hv s] w fun e w' => e = .returned (.int .i64 4) ∧ Below w.heap.size w w' := by
  have b0 := (Below.refl w.heap.size w).alloc (Nat.le_refl _) (.cells (nums .u8 s).toArray 23)
  have HC1 := hid (h.below b0)
  have c1 := HC1.out.count
  have t1 : decide ((n : Int) > 281474976710655) = true := by rw [decide_eq_true_eq]; omega
  clear h hn
  unfold hv
  go_enter Tryd.func13, Tryd.ntmps13
  go_upto_region 1 with (fail)
  generalize World.alloc w _ = w1 at *
  go_wp2
  go_ret
  exact ⟨rfl, b0⟩
theorem be8_val {l : List Nat} (h : l.length = 8) (hl : ∀ d ∈ l, d < 256) : be8 (val8 l) = l := by
  match l, h with
  | [a0, a1, a2, a3, a4, a5, a6, a7], _ =>
    exact be8_of (hl a0 (by simp)) (hl a1 (by simp)) (hl a2 (by simp)) (hl a3 (by simp)) (hl a4 (by simp)) (hl a5 (by simp)) (hl a6 (by simp)) (hl a7 (by simp))
theorem decL_code (n : Nat) : ∀ (m i : Nat) (K : KM) (bs : List Nat), (decL n m i K bs).1 = 0 ∨ (decL n m i K bs).1 = 20 ∨ (decL n m i K bs).1 = 24
  | 0, _, _, bs => by
    rw [decL]; dsimp only
    split
    · exact .inl rfl
    · exact .inr (.inr rfl)
  | m + 1, i, K, bs => by
    rw [decL]
    split
    · exact decL_code n m (i + 1) K bs
    · split
      · exact .inr (.inl rfl)
      · exact decL_code n m (i + 1) _ _
theorem dec_any {w w' : World} {bs : List Nat} {e : Ending} (hx : ∀ d ∈ bs, d < 256) (d : DecRes w bs e w') : Below w.heap.size w w' ∧
    ((∃ code : Nat, (code = 20 ∨ code = 1 ∨ code = 24) ∧ e = .returned (.tuple #[.pointer none, .int .i64 (code : Int)])) ∨
      (8 ≤ bs.length ∧ val8 (bs.take 8) ≤ 281474976710656 ∧ ∃ cb K, w.heap.size ≤ cb ∧ e = .returned (.tuple #[.pointer (some ⟨cb, 0, none⟩), .int .i64 0]) ∧ ChAt w' cb K (val8 (bs.take 8)) ∧ encB (val8 (bs.take 8)) K = bs)) := by
  obtain ⟨hb, h1, h2⟩ := d
  refine ⟨hb, ?_⟩
  by_cases h8 : bs.length < 8
  · exact .inl ⟨20, .inl rfl, h1 h8⟩
  · have h8' : 8 ≤ bs.length := by omega
    obtain ⟨h3, h4⟩ := h2 h8'
    by_cases hbig : 281474976710656 < val8 (bs.take 8)
    · exact .inl ⟨1, .inr (.inl rfl), h3 hbig⟩
    · obtain ⟨h5, h6⟩ := h4 (by omega)
      rcases decL_code (val8 (bs.take 8)) 49 0 noneK (bs.drop 8) with hc | hc | hc
      · obtain ⟨cb, h7, h8, h9⟩ := h6 hc
        refine .inr ⟨h8', by omega, cb, _, h7, h8, h9, ?_⟩
        obtain ⟨h10, _⟩ := decL_back 49 0 noneK (bs.drop 8) _ (Prod.ext hc rfl)
        rw [encB, h10, be8_val (by rw [List.length_take]; omega) (fun d hd => hx d (List.mem_of_mem_take hd)), List.take_append_drop]
      · refine .inl ⟨20, .inl rfl, ?_⟩
        have := h5 (by omega)
        rw [hc] at this; exact this
      · refine .inl ⟨24, .inr (.inr rfl), ?_⟩
        have := h5 (by omega)
        rw [hc] at this; exact this
set_option maxRecDepth 100000 in
set_option maxHeartbeats 8000000 in
theorem lawSReads (a : Option Addr) (n cap : Nat) (bs : List Nat) (hbs : ∀ d ∈ bs, d < 256) (hz : n * 1 ≤ 140737488351232) (w : World) (h : Sl .u8 w a n cap bs) (ht : Tabs w ∧ Tab64 w) :
    Calls Tryd.prog 7 #[.slice a n cap] w fun e w' => e = .returned (.bool true) ∧ Below w.heap.size w w' := by
  have HT := hid ht.1
  have H6 := hid ht.2
  have HL := hid h.len
  have SS := hid h
  have HX := hid hbs
  clear ht h hbs
  go_enter Tryd.func7, Tryd.ntmps7
  go_wp2_with fail
  refine (sechead_walk w HT.out H6.out).mono ?_
  rintro e w1 ⟨rfl, b1⟩
  have B1 := hid b1
  have SS1 := hid (SS.out.below b1)
  have hw1 := b1.size
  clear b1
  by_cases hbig : 3000 < n
  · have t1 : decide ((n : Int) > 3000) = true := by rw [decide_eq_true_eq]; omega
    clear hbig
    go_wp2
    go_ret
    exact ⟨rfl, B1.out⟩
  · have t1 : decide ((n : Int) > 3000) = false := by rw [decide_eq_false_iff_not]; omega
    have hn3 : n ≤ 3000 := by omega
    clear hbig
    go_wp2_with fail
    refine (copy_walk a n cap bs (by omega) _ SS1.out).mono ?_
    rintro e w2 ⟨v2, rfl, _, own2, b2⟩
    obtain ⟨a2, c2, rfl, hrd⟩ := SlV.of_owns own2
    rw [HL.out] at hrd ⊢
    have S2 := hid hrd
    have B2 := hid (bstep B1.out b2)
    have SS2 := hid (SS1.out.below b2)
    clear b2 own2 hrd SS1 B1 t1
    go_wp2_with fail
    refine (decode_walk a2 n c2 bs HX.out (by omega) _ S2.out).mono ?_
    intro e w3 d
    obtain ⟨b3, hd⟩ := dec_any HX.out d
    have B3 := hid (bstep B2.out b3)
    have SS3 := hid (SS2.out.below b3)
    have S3 := hid (S2.out.below b3)
    have hw3 := b3.size
    clear b3 d SS2 B2
    rcases hd with ⟨code, hcode, rfl⟩ | ⟨h8, h48, cb, Kp, hcb, rfl, hch, henc⟩
    · go_wp2_with fail
      refine (same_self a2 a n c2 n cap bs HX.out _ S3.out SS3.out).mono ?_
      rintro e w4 ⟨rfl, rfl⟩
      rcases hcode with rfl | rfl | rfl
      · go_wp2
        go_ret
        exact ⟨rfl, B3.out⟩
      · go_wp2
        go_ret
        exact ⟨rfl, B3.out⟩
      · go_wp2
        go_ret
        exact ⟨rfl, B3.out⟩
    · have HC := hid hch
      have HE := hid henc
      obtain ⟨N, hN⟩ : ∃ N, N = val8 (bs.take 8) := ⟨_, rfl⟩
      rw [← hN] at HC HE h48
      have HN := hid hN
      clear hch henc hN hcb
      go_wp2_with fail
      refine (same_self a2 a n c2 n cap bs HX.out _ S3.out SS3.out).mono ?_
      rintro e w4 ⟨rfl, rfl⟩
      clear S3 S2
      have hn8 : 8 ≤ n := by have := HL.out; omega
      have t2 : decide ((n : Int) < 8) = false := by rw [decide_eq_false_iff_not]; omega
      obtain ⟨b, off, ha, hc⟩ := SS3.out.opened
      obtain rfl := ha (by omega)
      have hc := hid hc
      clear h8 ha
      go_wp2
      go_loop [6, 7] (fun x6 x7 => ∃ i : Nat, i ≤ 8 ∧ x7 = .int .i64 i ∧ x6 = .int .u64 (val8 (bs.take i) : Int)) (fun _ x7 => 8 - (intOf x7).toNat)
      case atStart => exact ⟨0, by omega, rfl, rfl⟩
      case round =>
        obtain ⟨i, hi, rfl, rfl⟩ := hrel
        by_cases hlt : i < 8
        · have ci := hc.out i (by omega)
          have di := getDlt HX.out (by omega) i
          obtain ⟨c, hcv⟩ : ∃ c, c = val8 (bs.take i) := ⟨_, rfl⟩
          have hc7 : c < 72057594037927936 := by rw [hcv]; exact val8_take HX.out (by omega)
          rw [← hcv]
          have HV := hid (show val8 (bs.take (i + 1)) = c * 256 + bs.getD i 0 by
            have hil : i < bs.length := by have := HL.out; omega
            rw [List.take_add_one, List.getElem?_eq_getElem hil, List.getD_eq_getElem?_getD, List.getElem?_eq_getElem hil]
            show val8 (bs.take i ++ [bs[i]]) = _
            rw [val8_snoc, hcv]; rfl)
          obtain ⟨d, hd⟩ : ∃ d, d = bs.getD i 0 := ⟨_, rfl⟩
          rw [← hd] at ci HV di
          obtain ⟨x, hx⟩ : ∃ x : Nat, x = c * 256 + d := ⟨_, rfl⟩
          rw [← hx] at HV
          have hw : IntKind.u64.wrap ((c : Int) * 256) = (c : Int) * 256 := by rw [IntKind.wrap_u64]; omega
          have ex : (c : Int) * 256 + (d : Int) = (x : Int) := by omega
          have hx64 : x < 18446744073709551616 := by omega
          clear hcv hd hx
          go_wp2
          go_round
          case rel => exact ⟨i + 1, by omega, by go_num, by rw [HV.out]⟩
          case measure => simp [intOf]; omega
        · obtain rfl : i = 8 := by omega
          rw [← HN.out]
          clear hlt hi hc
          have t3 : decide ((N : Int) > 281474976710656) = false := by rw [decide_eq_false_iff_not]; omega
          go_wp2_with fail
          refine (count_walk N cb Kp _ HC.out).mono ?_
          rintro e w5 ⟨rfl, rfl⟩
          go_wp2_with fail
          refine (encode_walk cb N Kp _ HC.out).mono ?_
          rintro e w6 ⟨v6, rfl, own6, b6⟩
          rw [HE.out] at own6
          obtain ⟨a6, c6, rfl, hrd6⟩ := SlV.of_owns own6
          rw [HL.out] at hrd6 ⊢
          have S6 := hid hrd6
          have B6 := hid (bstep B3.out b6)
          have SS6 := hid (SS3.out.below b6)
          have HC6 := hid (HC.out.below b6)
          clear own6 hrd6 b6 SS3 HC B3
          go_wp2_with fail
          refine (same_self a6 (some ⟨b, off, none⟩) n c6 n cap bs HX.out _ S6.out SS6.out).mono ?_
          rintro e w7 ⟨rfl, rfl⟩
          by_cases hlast : N < 281474976710656
          · have t4 : decide ((N : Int) < 281474976710656) = true := by rw [decide_eq_true_eq]; omega
            clear hlast
            go_wp2
            go_ret
            exact ⟨rfl, B6.out⟩
          · have t4 : decide ((N : Int) < 281474976710656) = false := by rw [decide_eq_false_iff_not]; omega
            have hN' : 281474976710655 < N := by omega
            clear hlast
            go_wp2_with fail
            refine (put_many cb N Kp zero32 hN' _ HC6.out).mono ?_
            rintro e w8 ⟨rfl, b8⟩
            have B8 := hid (bstep B6.out b8)
            clear b8
            go_wp2
            go_ret
            exact ⟨rfl, B8.out⟩
end Go.Proofs.YtnfklnbdebcpiaaDoor

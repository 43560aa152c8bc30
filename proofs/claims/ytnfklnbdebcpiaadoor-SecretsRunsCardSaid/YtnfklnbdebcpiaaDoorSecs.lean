/- The walk of the statement SecretsTold. -/
import Derived.Test.YtnfklnbdebcpiaaDoorSecw
import Derived.Test.YtnfklnbdebcpiaaDoorSecg
namespace Go.Proofs.YtnfklnbdebcpiaaDoor
open Go.RowKit

theorem sz32 {S : List Nat} (h : H32 S) (z : Array Value) (hz : z.size = 32) : z.size = (nums .u8 S).toArray.size := by rw [hz, List.size_toArray, nums_length, h.1]
theorem one32 (S : List Nat) : (nums .u8 S).toArray.all (·.oneCell') = true := all_oneCell_toArray (nums_oneCell .u8 S)
theorem and63 (n : Int) : bits .and .i64 n 63 = n % 64 := by
  have h127 : (BitVec.ofInt 64 63).toNat = 2 ^ 6 - 1 := by decide
  have key : (BitVec.ofInt 64 n &&& BitVec.ofInt 64 63).toNat = (n % ((2 ^ 64 : Nat) : Int)).toNat % 2 ^ 6 := by
    rw [BitVec.toNat_and, BitVec.toNat_ofInt, h127, Nat.and_two_pow_sub_one_eq_mod]
  show IntKind.i64.wrap ((BitVec.ofInt 64 n &&& BitVec.ofInt 64 63).toNat : Nat) = n % 64
  rw [key, IntKind.wrap_i64]
  omega
theorem and4095 (n : Int) : bits .and .i64 n 4095 = n % 4096 := by
  have h127 : (BitVec.ofInt 64 4095).toNat = 2 ^ 12 - 1 := by decide
  have key : (BitVec.ofInt 64 n &&& BitVec.ofInt 64 4095).toNat = (n % ((2 ^ 64 : Nat) : Int)).toNat % 2 ^ 12 := by
    rw [BitVec.toNat_and, BitVec.toNat_ofInt, h127, Nat.and_two_pow_sub_one_eq_mod]
  show IntKind.i64.wrap ((BitVec.ofInt 64 n &&& BitVec.ofInt 64 4095).toNat : Nat) = n % 4096
  rw [key, IntKind.wrap_i64]
  omega
/-- what a chain's bytes are made of -/
def Fit (n : Nat) (T : KM) : Prop := ∀ i, i < 49 → H32 (T i).2 ∧ (lastN i n = none → T i = noneK i) ∧ ∀ p, lastN i n = some p → (T i).1 = p
theorem kh_fit {s : List Nat} (hs : H32 s) {n : Nat} (hn : n ≤ 281474976710656) : Fit n (Kh s n) := by
  intro i hi
  obtain ⟨h1, h2⟩ := kh_eq s (n := n) (show i ≤ 48 by omega) hn
  refine ⟨?_, h1, fun p hp => by rw [h2 p hp]⟩
  rcases kh_form s n i hn with h | ⟨q, h, _⟩
  · rw [h]; exact zero32_ok
  · rw [h]; exact secA_ok hs q
theorem encB_len {n : Nat} {T : KM} (h : Fit n T) : 8 ≤ (encB n T).length ∧ (encB n T).length ≤ 1576 := by
  have := secB_len (n := n) (K := T) (fun i hi => (h i hi).1) 49 0 (by omega)
  rw [encB, List.length_append, be8, be_length]
  omega
theorem encB_lt {n : Nat} {T : KM} (h : Fit n T) : ∀ d ∈ encB n T, d < 256 := by
  intro d hd
  rcases List.mem_append.1 hd with hd | hd
  · exact be_lt _ _ d hd
  · exact secB_lt (fun i hi => (h i hi).1) 49 0 (by omega) d hd
theorem val8_be (n : Nat) (h : n < 18446744073709551616) : val8 (be8 n) = n := be8_back n h
theorem ChAt.congr {w : World} {cb n : Nat} {K L : KM} (h : ChAt w cb K n) (e : ∀ j, j < 49 → K j = L j) : ChAt w cb L n := by
  obtain ⟨cs, h1, h2⟩ := h.st
  exact ⟨cs, h1, ⟨h2.sz, fun i hi j v hj => h2.el i hi j v (by rw [e i hi]; exact hj), h2.ct, fun i hi => e i hi ▸ h2.ok i hi, h2.le⟩⟩
theorem dec_enc {w w' : World} {n : Nat} {T : KM} {e : Ending} (h : Fit n T) (hn : n ≤ 281474976710656) (d : DecRes w (encB n T) e w') :
    Below w.heap.size w w' ∧ ∃ cb, w.heap.size ≤ cb ∧ e = .returned (.tuple #[.pointer (some ⟨cb, 0, none⟩), .int .i64 0]) ∧ ChAt w' cb T n := by
  obtain ⟨hb, _, h2⟩ := d
  refine ⟨hb, ?_⟩
  have e1 : (encB n T).take 8 = be8 n := List.take_left' (be_length 8 n)
  have e2 : (encB n T).drop 8 = secB n T 0 49 := List.drop_left' (be_length 8 n)
  have h3 := (h2 (encB_len h).1).2
  rw [e1, val8_be n (by omega), e2] at h3
  obtain ⟨L, hL, hLT⟩ := decL_enc h [] 49 0 noneK rfl (fun j hj => by omega) (fun j _ => rfl)
  rw [List.append_nil] at hL
  rw [hL] at h3
  obtain ⟨cb, h4, h5, h6⟩ := (h3 hn).2 rfl
  exact ⟨cb, h4, h5, h6.congr hLT⟩
theorem dec_more {w w' : World} {n : Nat} {T : KM} {e : Ending} (h : Fit n T) (hn : n ≤ 281474976710656) (d : DecRes w (encB n T ++ [0]) e w') :
    Below w.heap.size w w' ∧ e = .returned (.tuple #[.pointer none, .int .i64 24]) := by
  obtain ⟨hb, _, h2⟩ := d
  refine ⟨hb, ?_⟩
  have e1 : (encB n T ++ [0]).take 8 = be8 n := by rw [encB, List.append_assoc]; exact List.take_left' (be_length 8 n)
  have e2 : (encB n T ++ [0]).drop 8 = secB n T 0 49 ++ [0] := by rw [encB, List.append_assoc]; exact List.drop_left' (be_length 8 n)
  have h3 := (h2 (by rw [List.length_append]; have := (encB_len h).1; omega)).2
  rw [e1, val8_be n (by omega), e2] at h3
  obtain ⟨L, hL, hLT⟩ := decL_enc h [0] 49 0 noneK rfl (fun j hj => by omega) (fun j _ => rfl)
  rw [hL] at h3
  exact (h3 hn).1 (by simp)
theorem dec_less {w w' : World} {n c : Nat} {T : KM} {e : Ending} (h : Fit n T) (hn : n ≤ 281474976710656) (hc : c < (encB n T).length) (d : DecRes w ((encB n T).take c) e w') :
    Below w.heap.size w w' ∧ e = .returned (.tuple #[.pointer none, .int .i64 20]) := by
  obtain ⟨hb, h1, h2⟩ := d
  refine ⟨hb, ?_⟩
  by_cases h8 : c < 8
  · exact h1 (by rw [List.length_take]; omega)
  · have hl : ((encB n T).take c).length = c := by rw [List.length_take]; omega
    have e1 : ((encB n T).take c).take 8 = be8 n := by rw [List.take_take, show min 8 c = 8 by omega]; exact List.take_left' (be_length 8 n)
    have e2 : ((encB n T).take c).drop 8 = (secB n T 0 49).take (c - 8) := by
      rw [List.drop_take, show (encB n T).drop 8 = secB n T 0 49 from List.drop_left' (be_length 8 n)]
    have h3 := (h2 (by omega)).2
    rw [e1, val8_be n (by omega), e2] at h3
    obtain ⟨L, hL⟩ := decL_cut (n := n) (T := T) (fun i hi => (h i hi).1) 49 0 (c - 8) noneK rfl (by
      rw [encB, List.length_append, be8, be_length] at hc
      omega)
    rw [hL] at h3
    exact (h3 hn).1 (by simp)
theorem sl_low2 {u v w : World} {a : Option Addr} {n cap : Nat} {xs : List Nat} (h : Sl .u8 u a n cap xs) (h1 : Below u.heap.size u v) (h2 : Below u.heap.size v w) : Sl .u8 w a n cap xs :=
  h.below (h1.trans h2)
set_option maxRecDepth 100000 in
set_option maxHeartbeats 8000000 in
theorem lawTold (s : List Nat) (n0 cut : Int) (hs : H32 s) (_hq : (Lit.int .i64 n0).wf = true) (_hr : (Lit.int .i64 cut).wf = true) (w : World) (ht : Tabs w ∧ Tab64 w) :
    Calls Tryd.prog 6 #[hv s, .int .i64 n0, .int .i64 cut] w fun e w' => e = .returned (.bool true) ∧ Below w.heap.size w w' := by
  have HT := hid ht.1
  have H6 := hid ht.2
  have unH := Tryd.underlying23
  have hiP := hid (infoHl' hs)
  have gP := heap_alloc_new w (.cells (nums .u8 s).toArray 23)
  have b0 := (Below.refl w.heap.size w).alloc (Nat.le_refl _) (.cells (nums .u8 s).toArray 23)
  have zr := zv47
  have zn := zn47
  clear ht _hq _hr
  unfold hv
  go_enter Tryd.func6, Tryd.ntmps6
  go_wp2_with fail
  generalize World.alloc w _ = w0 at *
  refine (sechead_walk w0 (HT.out.below b0) (H6.out.below b0)).mono ?_
  rintro e w1 ⟨rfl, b1⟩
  have B1 := hid (b0.trans (b1.mono b0.size))
  have VP1 := hid (heap_keep gP b1)
  clear gP b0 b1
  generalize hP : w.heap.size = P at *
  have hpw1 : P < w1.heap.size := (Array.getElem?_eq_some_iff.1 VP1.out).1
  obtain ⟨m, hm⟩ : ∃ m : Nat, n0 % 64 = (m : Int) := ⟨(n0 % 64).toNat, by omega⟩
  have hm64 : m < 64 := by omega
  have em : bits .and .i64 n0 63 = (m : Int) := by rw [and63]; exact hm
  clear hm
  have ch0 : ChAt (w1.alloc (.cells zc47 47)) w1.heap.size (Kh s 0) 0 := ⟨⟨_, heap_alloc_new w1 _, zch⟩⟩
  have b2 := (Below.refl w1.heap.size w1).alloc (Nat.le_refl _) (.cells zc47 47)
  go_upto_region 5 with (fail)
  generalize w1.alloc (.cells zc47 47) = w2 at *
  have HC2 := hid ch0
  have VP2 := hid (heap_keep VP1.out b2)
  have B2 := hid (B1.out.trans (b2.mono (Nat.le_of_lt hpw1)))
  clear ch0 b2 em VP1 B1
  generalize hcb : w1.heap.size = cb at *
  have hPcb : P ≠ cb := by omega
  have hPcb' : P ≤ cb := by omega
  clear hcb
  go_wp2
  go_loopw [8] (fun x8 wr => ∃ i : Nat, i ≤ m ∧ x8 = .int .i64 i ∧ ChAt wr cb (Kh s i) i ∧ wr.heap[P]? = some (.cells (nums .u8 s).toArray 23 (0, 0)) ∧ Below P w wr) (fun x8 _ => m - (intOf x8).toNat)
  case atStart => exact ⟨0, by omega, rfl, HC2.out, VP2.out, B2.out⟩
  case round =>
    obtain ⟨i, hi, rfl, hch, hf, hb⟩ := hrel
    have HC := hid hch
    have VP := hid hf
    have HB := hid hb
    have hpwr : P < wr.heap.size := (Array.getElem?_eq_some_iff.1 hf).1
    have f1 := row_range hf
    clear hch hf hb HC2 VP2 B2
    by_cases hlt : i < m
    · obtain ⟨p, hp⟩ : ∃ p : Nat, p = 281474976710655 - i := ⟨_, rfl⟩
      have ep : 281474976710655 - (i : Int) = (p : Int) := by omega
      have hp48 : p < 281474976710656 := by omega
      have HP := hid hp
      clear hp
      go_wp2_with (refine wpList_load_mid rfl _ _ rfl P 0 rfl (nums .u8 s) _ f1 unH rfl hiP.out ?_)
      refine (at_walk s p hs hp48 _ (HT.out.below (hP ▸ HB.out))).mono ?_
      rintro e w3 ⟨rfl, b3⟩
      have hSe : leadN p 48 s = secA s p := rfl
      rw [hSe]
      have hSo := hid (secA_ok hs p)
      have HC3 := hid (HC.out.below b3)
      have VP3 := hid (heap_keep VP.out b3)
      have HB3 := hid (HB.out.trans (b3.mono (Nat.le_of_lt hpwr)))
      have hpw3 : P < w3.heap.size := (Array.getElem?_eq_some_iff.1 VP3.out).1
      clear b3 hSe HC VP HB f1
      obtain ⟨S, hS⟩ : ∃ S, S = secA s p := ⟨_, rfl⟩
      rw [← hS] at hSo ⊢
      have HS := hid hS
      have hiS := hid (infoHl' hSo.out)
      clear hS
      unfold hv
      go_upto_region 9 with (refine wpList_store_row rfl _ _ _ rfl w3.heap.size (nums .u8 S).toArray rfl rfl _ _ (heap_alloc_new w3 _) (infoHa hSo.out) (sz32 hSo.out _ rfl) (one32 S) ?_)
      have LA := fun z => laid w3 z (nums .u8 S).toArray 23
      generalize hW : World.setRow _ _ _ = w4
      replace LA := hid (hW ▸ LA _)
      have HC4 := hid (HC3.out.below LA.out.2)
      have VP4 := hid (heap_keep VP3.out LA.out.2)
      have HB4 := hid (HB3.out.trans (LA.out.2.mono (Nat.le_of_lt hpw3)))
      have rV := row_range LA.out.1
      clear hW LA HC3 VP3 HB3
      generalize w3.heap.size = V at *
      go_wp2_with (refine wpList_load_midG rfl _ _ rfl V 0 rfl (nums .u8 S) _ rV unH rfl hiS.out ?_)
      refine (put_walk cb i (Kh s i) S hSo.out (by omega) _ HC4.out (HT.out.below (hP ▸ HB4.out)) (H6.out.below (hP ▸ HB4.out))).mono ?_
      rintro e w5 ⟨hgood, _, f5⟩
      obtain ⟨rfl, hc5⟩ := hgood (by rw [HS.out, HP.out]; exact kh_ok s (by omega))
      have HC5 := hid (show ChAt w5 cb (Kh s (i + 1)) (i + 1) by rw [HS.out, HP.out] at hc5; exact hc5)
      have VP5 := hid (heap_far VP4.out f5 hPcb)
      have HB5 := hid (HB4.out.trans (f5.below hPcb' (by have := HC4.out.lt; omega)))
      clear hgood hc5 f5 rV HC4 VP4 HB4
      go_wp2
      go_roundw
      case rel => exact ⟨i + 1, by omega, by go_num, HC5.out, VP5.out, HB5.out⟩
      case measure => simp [intOf]; omega
    · obtain rfl : i = m := by omega
      have hcl := HC.out.lt
      have hfit := hid (kh_fit hs (n := i) (by omega))
      go_wp2_with fail
      refine (encode_walk cb i (Kh s i) _ HC.out).mono ?_
      rintro e w3 ⟨v, rfl, hown, b3⟩
      obtain ⟨bs, hbs⟩ : ∃ bs, bs = encB i (Kh s i) := ⟨_, rfl⟩
      rw [← hbs] at hown
      obtain ⟨a, cap, rfl, hrd⟩ := SlV.of_owns hown
      have hL8 := (encB_len hfit.out).1
      have hL15 := (encB_len hfit.out).2
      have hltb := encB_lt hfit.out
      rw [← hbs] at hL8 hL15 hltb
      have HBS := hid hbs
      have HLT := hid hltb
      have HC3 := hid (HC.out.below b3)
      have VP3 := hid (heap_keep VP.out b3)
      have HB3 := hid (HB.out.trans (b3.mono (Nat.le_of_lt hpwr)))
      have SL3 := hid hrd
      obtain ⟨L, hL⟩ : ∃ L, L = bs.length := ⟨_, rfl⟩
      rw [← hL] at SL3 hL8 hL15 ⊢
      have HL := hid hL
      have hpw3 : P < w3.heap.size := (Array.getElem?_eq_some_iff.1 VP3.out).1
      clear b3 hown hrd hltb hbs HC VP HB f1 hL
      go_wp2_with fail
      refine (decode_walk a L cap bs HLT.out (by omega) w3 SL3.out).mono ?_
      intro e w4 d
      rw [HBS.out] at d
      obtain ⟨b4, db, hdb, rfl, hd4⟩ := dec_enc hfit.out (by omega) d
      have HC4 := hid (HC3.out.below b4)
      have VP4 := hid (heap_keep VP3.out b4)
      have HB4 := hid (HB3.out.trans (b4.mono (Nat.le_of_lt hpw3)))
      have SL4 := hid (SL3.out.below b4)
      have HD4 := hid hd4
      have hPdb : P ≠ db := by omega
      have hcdb : cb ≠ db := by have := HC3.out.lt; omega
      have hpdb : P ≤ db := by omega
      have hpw4 : P < w4.heap.size := (Array.getElem?_eq_some_iff.1 VP4.out).1
      have t1 : decide ((L : Int) > 1576) = false := by rw [decide_eq_false_iff_not]; omega
      clear b4 hd4 d hdb HC3 VP3 HB3 SL3
      go_wp2_with fail
      refine (count_walk i db (Kh s i) _ HD4.out).mono ?_
      rintro e w5 ⟨rfl, rfl⟩
      go_wp2_with fail
      refine (encode_walk db i (Kh s i) _ HD4.out).mono ?_
      rintro e w6 ⟨v6, rfl, hown6, b6⟩
      rw [← HBS.out] at hown6
      obtain ⟨a6, cap6, rfl, hrd6⟩ := SlV.of_owns hown6
      rw [← HL.out] at hrd6 ⊢
      have S6 := hid hrd6
      have HC6 := hid (HC4.out.below b6)
      have VP6 := hid (heap_keep VP4.out b6)
      have HB6 := hid (HB4.out.trans (b6.mono (Nat.le_of_lt hpw4)))
      have SL6 := hid (SL4.out.below b6)
      have HD6 := hid (HD4.out.below b6)
      clear b6 hown6 hrd6 HC4 VP4 HB4 SL4 HD4 t1
      go_wp2_with fail
      refine (same_self a6 a L cap6 L cap bs HLT.out _ S6.out SL6.out).mono ?_
      rintro e w7 ⟨rfl, rfl⟩
      clear S6
      have hpw6 : P < w6.heap.size := (Array.getElem?_eq_some_iff.1 VP6.out).1
      obtain ⟨wl, rfl⟩ : ∃ wl, wl = w6 := ⟨_, rfl⟩
      have hi63 : i < 64 := hm64
      go_wp2
      go_loopw [14] (fun x14 wr => ∃ j : Nat, j ≤ i ∧ x14 = .int .i64 j ∧ Below wl.heap.size wl wr) (fun x14 _ => i - (intOf x14).toNat)
      case atStart => exact ⟨0, by omega, rfl, Below.refl _ _⟩
      case round =>
        obtain ⟨j, hj, rfl, hbl⟩ := hrel
        have HBL := hid hbl
        have HCr := hid (HC6.out.below hbl)
        have HDr := hid (HD6.out.below hbl)
        have VPr := hid (heap_keep VP6.out hbl)
        have HBr := hid (HB6.out.trans (hbl.mono (Nat.le_of_lt hpw6)))
        have hpwr2 : P < wr.heap.size := (Array.getElem?_eq_some_iff.1 VPr.out).1
        have f1 := row_range VPr.out
        clear hbl
        by_cases hlt2 : j < i
        · obtain ⟨p, hp⟩ : ∃ p : Nat, p = 281474976710655 - j := ⟨_, rfl⟩
          have ep : 281474976710655 - (j : Int) = (p : Int) := by omega
          have hp48 : p < 281474976710656 := by omega
          have hpj : 281474976710656 ≤ p + i := by omega
          clear hp
          go_wp2_with (refine wpList_load_mid rfl _ _ rfl P 0 rfl (nums .u8 s) _ f1 unH rfl hiP.out ?_)
          refine (at_walk s p hs hp48 _ (HT.out.below (hP ▸ HBr.out))).mono ?_
          rintro e w8 ⟨rfl, b8⟩
          have hSe : leadN p 48 s = secA s p := rfl
          rw [hSe]
          have hSo := hid (secA_ok hs p)
          have HC8 := hid (HCr.out.below b8)
          have HD8 := hid (HDr.out.below b8)
          have HBL8 := hid (bstep HBL.out b8)
          have HB8 := hid (HBr.out.trans (b8.mono (Nat.le_of_lt hpwr2)))
          clear b8 hSe HCr HDr VPr HBL HBr f1
          obtain ⟨S, hS⟩ : ∃ S, S = secA s p := ⟨_, rfl⟩
          rw [← hS] at hSo ⊢
          have HS := hid hS
          have hiS := hid (infoHl' hSo.out)
          clear hS
          unfold hv
          go_upto_region 19 with (refine wpList_store_row rfl _ _ _ rfl w8.heap.size (nums .u8 S).toArray rfl rfl _ _ (heap_alloc_new w8 _) (infoHa hSo.out) (sz32 hSo.out _ rfl) (one32 S) ?_)
          have LA := fun z => laid w8 z (nums .u8 S).toArray 23
          generalize hW : World.setRow _ _ _ = w9
          replace LA := hid (hW ▸ LA _)
          have HC9 := hid (HC8.out.below LA.out.2)
          have HD9 := hid (HD8.out.below LA.out.2)
          have HBL9 := hid (bstep HBL8.out LA.out.2)
          have HB9 := hid (HB8.out.trans (LA.out.2.mono (by have := HB8.out.size; omega)))
          clear HC8 HD8 HBL8 HB8
          have HV1 := hid LA.out.1
          clear hW LA
          generalize w8.heap.size = V1 at *
          go_wp2_with fail
          refine (get_walk cb i p (Kh s i) (by omega) _ HC9.out (HT.out.below (hP ▸ HB9.out))).mono ?_
          intro e w10 r
          obtain ⟨rfl, b10⟩ := told (by omega) (by omega) hpj r
          rw [← HS.out]
          have HD10 := hid (HD9.out.below b10)
          have HBL10 := hid (bstep HBL9.out b10)
          have HB10 := hid (HB9.out.trans (b10.mono (by have := HB9.out.size; omega)))
          have HV1b := hid (heap_keep HV1.out b10)
          clear r b10 HC9 HD9 HBL9 HB9 HV1
          unfold hv
          go_upto_region 20 with (refine wpList_store_row rfl _ _ _ rfl w10.heap.size (nums .u8 S).toArray rfl rfl _ _ (heap_alloc_new w10 _) (infoHa hSo.out) (sz32 hSo.out _ rfl) (one32 S) ?_)
          have LA := fun z => laid w10 z (nums .u8 S).toArray 23
          generalize hW : World.setRow _ _ _ = w11
          replace LA := hid (hW ▸ LA _)
          have HD11 := hid (HD10.out.below LA.out.2)
          have HBL11 := hid (bstep HBL10.out LA.out.2)
          have HB11 := hid (HB10.out.trans (LA.out.2.mono (by have := HB10.out.size; omega)))
          have HV1c := hid (heap_keep HV1b.out LA.out.2)
          clear HD10 HBL10 HB10 HV1b
          have HV2 := hid LA.out.1
          clear hW LA
          generalize w10.heap.size = V2 at *
          go_wp2_with fail
          refine (get_walk db i p (Kh s i) (by omega) _ HD11.out (HT.out.below (hP ▸ HB11.out))).mono ?_
          intro e w12 r
          obtain ⟨rfl, b12⟩ := told (by omega) (by omega) hpj r
          rw [← HS.out]
          have HBL12 := hid (bstep HBL11.out b12)
          have HV1d := hid (heap_keep HV1c.out b12)
          have HV2d := hid (heap_keep HV2.out b12)
          clear r b12 HD11 HBL11 HB11 HV1c HV2
          unfold hv
          go_upto_region 21 with (refine wpList_store_row rfl _ _ _ rfl w12.heap.size (nums .u8 S).toArray rfl rfl _ _ (heap_alloc_new w12 _) (infoHa hSo.out) (sz32 hSo.out _ rfl) (one32 S) ?_)
          have LA := fun z => laid w12 z (nums .u8 S).toArray 23
          generalize hW : World.setRow _ _ _ = w13
          replace LA := hid (hW ▸ LA _)
          have HBL13 := hid (bstep HBL12.out LA.out.2)
          have r1 := row_range (heap_keep HV1d.out LA.out.2)
          have r2 := row_range (heap_keep HV2d.out LA.out.2)
          have r3 := row_range LA.out.1
          clear HBL12 HV1d HV2d
          have HV3 := hid LA.out.1
          clear hW LA
          generalize w12.heap.size = V3 at *
          have e1 : ∀ (op : BinOp) (x y : Operand) (w : World), (eqGuard op 23 x y (.agg (nums .u8 S).toArray) (.agg (nums .u8 S).toArray)).run Tryd.prog w = .ok () w := guard_hv S S
          have e2 : ∀ w, (binOp .neq 23 (.agg (nums .u8 S).toArray) (.agg (nums .u8 S).toArray)).run Tryd.prog w = .ok (.bool false) w := fun w => by
            have := neq_hv (w := w) hSo.out.1 hSo.out.1 hSo.out.2 hSo.out.2
            rw [decide_eq_true rfl] at this; exact this
          go_wp2_with (first | (refine wpList_load_midG rfl _ _ rfl V1 0 rfl (nums .u8 S) _ r1 unH rfl hiS.out ?_) | (refine wpList_load_midG rfl _ _ rfl V2 0 rfl (nums .u8 S) _ r2 unH rfl hiS.out ?_) | (refine wpList_load_midG rfl _ _ rfl V3 0 rfl (nums .u8 S) _ r3 unH rfl hiS.out ?_))
          go_roundw
          case rel => exact ⟨j + 1, by omega, by go_num, HBL13.out⟩
          case measure => simp [intOf]; omega
        · obtain rfl : i = j := by omega
          clear hlt2 hj HC6 HD6 VP6 HB6 HCr
          have SLr := hid (SL6.out.below HBL.out)
          obtain ⟨p, hp⟩ : ∃ p : Nat, p = 281474976710655 - i := ⟨_, rfl⟩
          have ep : 281474976710655 - (i : Int) = (p : Int) := by omega
          have hp48 : p < 281474976710656 := by omega
          have HP := hid hp
          clear hp SL6
          go_wp2_with (refine wpList_load_mid rfl _ _ rfl P 0 rfl (nums .u8 s) _ f1 unH rfl hiP.out ?_)
          refine (at_walk s p hs hp48 _ (HT.out.below (hP ▸ HBr.out))).mono ?_
          rintro e w8 ⟨rfl, b8⟩
          have hSe : leadN p 48 s = secA s p := rfl
          rw [hSe]
          have hSo := hid (secA_ok hs p)
          have HD8 := hid (HDr.out.below b8)
          have SL8 := hid (SLr.out.below b8)
          have HB8 := hid (HBr.out.trans (b8.mono (Nat.le_of_lt hpwr2)))
          have hPw8 : P ≤ w8.heap.size := by have := b8.size; omega
          clear b8 hSe HDr SLr HBr f1 VPr
          obtain ⟨S, hS⟩ : ∃ S, S = secA s p := ⟨_, rfl⟩
          rw [← hS] at hSo ⊢
          have HS := hid hS
          have hiS := hid (infoHl' hSo.out)
          clear hS
          unfold hv
          go_upto_region 24 with (refine wpList_store_row rfl _ _ _ rfl w8.heap.size (nums .u8 S).toArray rfl rfl _ _ (heap_alloc_new w8 _) (infoHa hSo.out) (sz32 hSo.out _ rfl) (one32 S) ?_)
          have LA := fun z => laid w8 z (nums .u8 S).toArray 23
          generalize hW : World.setRow _ _ _ = w9
          replace LA := hid (hW ▸ LA _)
          have HD9 := hid (HD8.out.below LA.out.2)
          have SL9 := hid (SL8.out.below LA.out.2)
          have HB9 := hid (HB8.out.trans (LA.out.2.mono hPw8))
          have hPw9 : P ≤ w9.heap.size := by have := LA.out.2.size; omega
          clear HD8 SL8 HB8 hPw8
          have HV1 := hid LA.out.1
          clear hW LA
          generalize w8.heap.size = V1 at *
          go_wp2_with fail
          refine (copy_walk a L cap bs (by omega) _ SL9.out).mono ?_
          rintro e wa ⟨va, rfl, _, owna, ba⟩
          have HDa := hid (HD9.out.below ba)
          have SLa := hid (SL9.out.below ba)
          have HBa := hid (HB9.out.trans (ba.mono hPw9))
          have HVa := hid (heap_keep HV1.out ba)
          have hw9a := ba.size
          obtain ⟨B9, hB9⟩ : ∃ B9, B9 = w9.heap.size := ⟨_, rfl⟩
          rw [← hB9] at owna ba
          have hV1B : V1 < B9 := by rw [hB9]; exact (Array.getElem?_eq_some_iff.1 HV1.out).1
          have hdB : db < B9 := by rw [hB9]; exact HD9.out.lt
          rw [← hB9] at hw9a hPw9
          have HQ9 := hid hB9
          clear HD9 HB9 HV1 hB9
          have hol : bs.length < 4294967296 := by have := HL.out; omega
          go_wp2_with (at_builtin; refine wpList_push rfl _ _ 54 rfl tyBs B9 owna rfl rfl rfl rfl hol (by decide) hw9a ?_)
          intro vb wb ownb bb hsb _
          have ownc := own_snoc (d := 0) ownb rfl
          have HDb := hid (show ChAt wb db (Kh s i) i from by
            obtain ⟨cs, h1, h2⟩ := HDa.out.st
            exact ⟨cs, (bb.block db hdB).trans h1, h2⟩)
          have HBb := hid (HBa.out.trans (bb.mono hPw9))
          have HVb := hid ((bb.block V1 hV1B).trans HVa.out)
          have SLb := hid (sl_low2 SL9.out (HQ9.out ▸ ba) (HQ9.out ▸ bb))
          have hPwb : P ≤ wb.heap.size := by omega
          obtain ⟨ac, capc, hvc, hrdc⟩ := SlV.of_owns ownc
          subst hvc
          have SC := hid hrdc
          have ltc := hid (show ∀ d ∈ bs ++ [0], d < 256 from fun d hd => by
            rcases List.mem_append.1 hd with hd | hd
            · exact HLT.out d hd
            · simp at hd; omega)
          have hlc : (bs ++ [0]).length ≤ 1000000 := by rw [List.length_append]; have := HL.out; simp; omega
          clear ownb ownc owna ba bb hrdc SLa HDa HBa HVa hw9a SL9
          generalize hlcn : (bs ++ [0]).length = lc at *
          go_wp2_with fail
          refine (decode_walk ac lc capc (bs ++ [0]) ltc.out hlc _ SC.out).mono ?_
          intro e wc d
          rw [HBS.out] at d
          obtain ⟨bc, rfl⟩ := dec_more hfit.out (by omega) d
          have HDc := hid (HDb.out.below bc)
          have HVc := hid (heap_keep HVb.out bc)
          have SLc := hid (SLb.out.below bc)
          have HBc := hid (HBb.out.trans (bc.mono hPwb))
          have hPwc : P ≤ wc.heap.size := by have := bc.size; omega
          obtain ⟨y, hy⟩ : ∃ y : Nat, cut % 4096 = (y : Int) := ⟨(cut % 4096).toNat, by omega⟩
          have ey : bits .and .i64 cut 4095 = (y : Int) := by rw [and4095]; exact hy
          obtain ⟨c, hc⟩ : ∃ c : Nat, c = y % L := ⟨_, rfl⟩
          have hcL : c < L := by rw [hc]; exact Nat.mod_lt _ (by omega)
          have ec : (y : Int) % (L : Int) = (c : Int) := by rw [hc]; exact (Int.natCast_emod y L).symm
          have hy64 : y < 4096 := by omega
          have z1 : ((L : Int) == 0) = false := by rw [beq_eq_false_iff_ne]; omega
          have hLcap := SLc.out.2.1
          have z2 : (c : Int) ≤ (cap : Int) := by omega
          clear hlcn SC ltc hlc bc d HDb HVb SLb HBb hPwb hc hy
          go_wp2_with fail
          refine (decode_walk a c cap (bs.take c) (fun d hd => HLT.out d (List.mem_of_mem_take hd)) (by omega) _ (SLc.out.take (Nat.le_of_lt hcL))).mono ?_
          intro e we d
          rw [HBS.out] at d
          obtain ⟨be, rfl⟩ := dec_less hfit.out (by omega) (by rw [← HBS.out, ← HL.out]; exact hcL) d
          have HDe := hid (HDc.out.below be)
          have HVe := hid (heap_keep HVc.out be)
          have HBe := hid (HBc.out.trans (be.mono hPwc))
          have rv := row_range HVe.out
          clear be d HDc HVc HBc ey ec SLc
          go_wp2_with (refine wpList_load_midG rfl _ _ rfl V1 0 rfl (nums .u8 S) _ rv unH rfl hiS.out ?_)
          refine (put_walk db i (Kh s i) S hSo.out (by omega) _ HDe.out (HT.out.below (hP ▸ HBe.out)) (H6.out.below (hP ▸ HBe.out))).mono ?_
          rintro e wf ⟨hgood, _, ff⟩
          obtain ⟨rfl, _⟩ := hgood (by rw [HS.out, HP.out]; exact kh_ok s (by omega))
          have HBf := hid (HBe.out.trans (ff.below hpdb (by have := HDe.out.lt; omega)))
          clear hgood ff rv
          go_wp2
          go_ret
          exact ⟨rfl, hP ▸ HBf.out⟩
end Go.Proofs.YtnfklnbdebcpiaaDoor

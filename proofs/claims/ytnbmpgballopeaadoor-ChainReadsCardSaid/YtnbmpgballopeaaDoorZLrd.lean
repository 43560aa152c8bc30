/- Whatever bytes: the transaction that they are, or why they are none (the statement ChainReads). -/
import Derived.Test.YtnbmpgballopeaaDoorZCda
import Derived.Test.YtnbmpgballopeaaDoorZRde
import Derived.Test.YtnbmpgballopeaaDoorZCen
import Derived.Test.YtnbmpgballopeaaDoorZSmt
import Derived.Test.YtnbmpgballopeaaDoorZChe
import Derived.Test.YtnbmpgballopeaaDoorZOpenT
namespace Go.Proofs.YtnbmpgballopeaaDoor
open Go.RowKit
theorem insD_size : ∀ (f : Nat) (v : List Nat), 133 * (insD f v).1.length ≤ v.length
 | 0, _ => by simp [insD]
 | f + 1, v => by
  unfold insD
  (repeat' split) <;> try simp
  rename_i h0 h1 h2 h3
  have ih := insD_size f (v.drop 133)
  unfold joinI
  split
  ·simp
  ·simp only [List.length_append, List.length_cons, List.length_nil]
   rw [List.length_drop] at ih
   omega
theorem outsD_size : ∀ (f : Nat) (v : List Nat), 41 * (outsD f v).1.length ≤ v.length ∧ ∀ o ∈ (outsD f v).1, 104 * o.paths.length ≤ v.length
 | 0, _ => by simp [outsD]
 | f + 1, v => by
  unfold outsD
  (repeat' split) <;> first | (simp; done) | skip
  rename_i h0 h1
  obtain ⟨i1, i2⟩ := outsD_size f (v.drop (41 + 104 * v.getD 40 0))
  unfold joinI
  split
  ·simp
  ·rw [List.length_drop] at i1 i2
   refine ⟨?_, ?_⟩
   ·simp only [List.length_append, List.length_cons, List.length_nil]
    omega
   ·intro o ho
    rcases List.mem_append.1 ho with ho | ho
    ·rw [List.mem_singleton.1 ho]
     show 104 * (pathsD (v.getD 40 0) (v.drop 41)).length ≤ _
     rw [pathsD_len]; omega
    ·have := i2 o ho; omega
theorem decT_size {bs : List Nat} (hx : ∀ d ∈ bs, d < 256) (hl : bs.length ≤ 9000) : (decT bs).1.1.length ≤ 4096 ∧ (decT bs).1.2.length ≤ 4096 ∧ ∀ o ∈ (decT bs).1.2, o.paths.length ≤ 4096 := by
 unfold decT
 split
 ·simp
 ·rename_i h0
  have hs := decS_len hx (by simpa using h0)
  split
  ·rename_i a b he
   split
   ·split
    ·simp
    ·split
     ·simp
     ·split
      ·simp
      ·have ha := hs a (by rw [he]; simp)
       have hb := hs b (by rw [he]; simp)
       have h1 := insD_size (a.2.length + 1) a.2
       have h2 := outsD_size (b.2.length + 1) b.2
       refine ⟨?_, ?_, fun o ho => ?_⟩
       ·show (insD (a.2.length + 1) a.2).1.length ≤ _; omega
       ·show (outsD (b.2.length + 1) b.2).1.length ≤ _; omega
       ·have := h2.2 o ho; omega
   ·simp
  ·simp
theorem recsT_bare (is : List InD) (os : List OutD) : recsT is (os.map OutD.bare) = recsT is os := by
 have e : (os.map OutD.bare).flatMap outB = os.flatMap outB := by rw [List.flatMap_map]; rfl
 unfold recsT
 rw [e]
set_option maxRecDepth 100000 in
set_option maxHeartbeats 16000000 in
theorem lawReads (a : Option Addr) (n cap : Nat) (bs : List Nat) (hbs : ∀ d ∈ bs, d < 256) (hn : n ≤ 140737488351232) (w : World) (h : Sl .u8 w a n cap bs) (ht : Tabs w) :
  Calls Tryd.prog 3 #[.slice a n cap] w (fun e w' => e = .returned (.bool true) ∧ Below w.heap.size w w') := by
 have BS := hid hbs
 have LEN := hid h.len
 have NLE := hid hn
 have SL := hid h
 have HD := hid (chead_walk w ht)
 clear hbs hn h ht
 go_enter Tryd.func3, Tryd.ntmps3
 go_wp2_with (fail)
 refine HD.out.mono ?_
 rintro e w1 ⟨rfl, b1⟩
 have B1 := hid b1
 clear b1 HD
 by_cases hL : 9000 < n
 case pos =>
  have u1 : decide ((9000 : Int) < (n : Int)) = true := decide_eq_true (by omega)
  have u2 : decide (9000 < n) = true := decide_eq_true hL
  clear hL
  go_wp2_with (fail)
  go_ret
  exact ⟨rfl, B1.out⟩
 have u1 : decide ((9000 : Int) < (n : Int)) = false := decide_eq_false (by omega)
 have u2 : decide (9000 < n) = false := decide_eq_false hL
 have L9 := hid (show n ≤ 9000 by omega)
 clear hL
 have CP := hid (copy_walk a n cap bs (by have := L9.out; omega) w1 (SL.out.below B1.out))
 go_upto_region 5 with (fail)
 clear u1 u2
 go_wp2_with (fail)
 refine CP.out.mono ?_
 rintro e w2 ⟨mv, rfl, _, om, b2⟩
 obtain ⟨ma, mc, rfl, _⟩ := Rd.of_owns om
 have OM := hid om
 have SM := hid (show Sl .u8 w2 ma n mc bs from by have := sl_of_own om; rw [LEN.out] at this; exact this)
 have B2 := hid (B1.out.trans (b2.mono B1.out.size))
 rw [LEN.out]
 have DC := hid (cdec_walk ma n mc bs BS.out (by have := L9.out; omega) w2 SM.out)
 clear CP om b2
 go_wp2_with (fail)
 refine DC.out.mono ?_
 rintro e w3 ⟨t, rfl, tg, ti, to, b3⟩
 obtain ⟨k, hk⟩ : ∃ k, k = (decT bs).2 := ⟨_, rfl⟩
 rw [← hk]
 have KE := hid hk
 have TI := hid ti
 have TO := hid to
 have TG := hid tg
 have B3 := hid (B2.out.trans (b3.mono B2.out.size))
 obtain ⟨tc, htc⟩ : ∃ tc, tc = t.cells := ⟨_, rfl⟩
 rw [← htc]
 have TC := hid htc
 have TL := hid (show tc.length = 2 by rw [htc]; rfl)
 have hiT := hid (show (Tryd.prog.info? 28).map (·.size) = some tc.length by rw [TL.out]; kernel_rfl)
 have hiTa := hid (show (Tryd.prog.info? 28).map (·.size) = some tc.toArray.size by rw [List.size_toArray]; exact hiT.out)
 have hoT := hid (show 2 = tc.toArray.size by rw [List.size_toArray, TL.out])
 have h1T := hid (show (tc.toArray.all fun x => x.oneCell') = true by rw [htc]; exact all_oneCell_toArray (TxD.one t))
 have SMB := hid (SM.out.below b3)
 clear DC hk ti to tg b3 htc
 go_upto_region 7 with (refine wpList_store_row rfl _ _ _ rfl w3.heap.size tc.toArray rfl rfl _ _ (heap_alloc_new _ _) hiTa.out hoT.out h1T.out ?_; refine laidW (F := fun w4 => wpList _ _ _ _ _ w4) ?_; intro w4 h4 b4)
 have B4 := hid (B3.out.trans (b4.out.mono B3.out.size))
 have RD := hid (rcdec_walk a n cap bs BS.out (by have := L9.out; omega) w4 (SL.out.below B4.out))
 have TG4 := hid (TG.out.below b4.out)
 have SM4 := hid (SMB.out.below b4.out)
 clear b4 SMB
 go_wp2_with (fail)
 refine RD.out.mono ?_
 rintro e w5 ⟨s, rfl, sg, si, so, b5⟩
 rw [← KE.out]
 have SI := hid si
 have SO := hid so
 have SG := hid sg
 have B5 := hid (B4.out.trans (b5.mono B4.out.size))
 have HT5 := hid (heap_keep h4.out b5)
 have TG5 := hid (TG4.out.below b5)
 have SM5 := hid (SM4.out.below b5)
 obtain ⟨sc, hsc⟩ : ∃ sc, sc = s.cells := ⟨_, rfl⟩
 rw [← hsc]
 have SC := hid hsc
 have SCL := hid (show sc.length = 2 by rw [hsc]; rfl)
 have hiS := hid (show (Tryd.prog.info? 35).map (·.size) = some sc.length by rw [SCL.out]; kernel_rfl)
 have hiSa := hid (show (Tryd.prog.info? 35).map (·.size) = some sc.toArray.size by rw [List.size_toArray]; exact hiS.out)
 have hoS := hid (show 2 = sc.toArray.size by rw [List.size_toArray, SCL.out])
 have h1S := hid (show (sc.toArray.all fun x => x.oneCell') = true by rw [hsc]; exact all_oneCell_toArray (TxD.one s))
 clear RD si so sg b5 hsc h4
 go_upto_region 8 with (refine wpList_store_row rfl _ _ _ rfl w5.heap.size sc.toArray rfl rfl _ _ (heap_alloc_new _ _) hiSa.out hoS.out h1S.out ?_; refine laidW (F := fun w6 => wpList _ _ _ _ _ w6) ?_; intro w6 h6 b6)
 have B6 := hid (B5.out.trans (b6.out.mono B5.out.size))
 have RT := hid (row_range (heap_keep HT5.out b6.out))
 have RS := hid (row_range h6.out)
 have TG6 := hid (TG5.out.below b6.out)
 have SG6 := hid (SG.out.below b6.out)
 have SM6 := hid (SM5.out.below b6.out)
 have SL6 := hid (SL.out.below B6.out)
 have SZ := hid (decT_size BS.out (by rw [LEN.out]; exact L9.out))
 have PW := fun (wx : World) (bx : Below w6.heap.size w6 wx) => hid (show Calls Tryd.prog 9 #[.agg tc.toArray] wx _ from by
  rw [TC.out]
  exact pln_walk t wx (TG6.out.below bx) ⟨by rw [TI.out]; exact SZ.out.1, by have := SZ.out.2.1; rw [← TO.out, List.length_map] at this; exact this⟩ (fun o ho => SZ.out.2.2 o.bare (by rw [← TO.out]; exact List.mem_map_of_mem ho)))
 have v1 : ((k : Int) != (k : Int)) = false := by simp
 clear b6
 go_upto_region 8 with (fail)
 refine wp_region_held_drew (S := fun w' => Below w6.heap.size w6 w') (by kernel_rfl) ((Below.refl _ _).drew) (fun hHeld => ?_)
 try simp only [List.size_toArray, List.length_cons, List.length_nil, Nat.reduceAdd, Array.replicate_succ, Array.replicate_zero, List.push_toArray, List.nil_append, List.cons_append]
 refine tkH (i := 0) (oi := ⟨some 27, .move (.tmp 5), 29, "law.go:98", #[], none⟩) (v := ?v1001) (yi ?y1001) hHeld ?_
 case y1001 => (intro w _; go_simp; (try with_reducible rfl))
 (try simp only [Act.put, s0, s1, s2])
 refine tkH (i := 1) (oi := ⟨some 28, .move (.tmp 7), 3, "law.go:98", #[], none⟩) (v := ?v1002) (yi ?y1002) hHeld ?_
 case y1002 => (intro w _; go_simp; (try with_reducible rfl))
 (try simp only [Act.put, s0, s1, s2])
 refine tkH (i := 2) (oi := ⟨some 29, .binOp .neq 3 (.tmp 27) (.tmp 28) 3, 4, "law.go:98", #[⟨0, .data⟩, ⟨1, .data⟩], none⟩) (v := ?v1003) (yi ?y1003) hHeld ?_
 case y1003 => (intro w _; go_simp; (try with_reducible rfl))
 (try simp only [Act.put, s0, s1, s2])
 refine tkH (i := 3) (oi := ⟨some 30, .move (.tmp 29), 4, "law.go:98", #[⟨2, .data⟩], none⟩) (v := ?v1004) (yi ?y1004) hHeld ?_
 case y1004 => (intro w _; go_simp; (try with_reducible rfl))
 (try simp only [Act.put, s0, s1, s2])
 refine' tkH (i := 4) (oi := ⟨some 31, .load 28 (.tmp 4), 28, "law.go:98", #[⟨3, .guard⟩], some (3, false)⟩) (v := _) (yieldsIf_load_mid (by rfl) _ _ rfl w3.heap.size 0 rfl tc _ (fun _ h => range_keep h RT.out) Tryd.underlying28 rfl hiT.out) hHeld ?_
 (try simp only [Act.put, s0, s1, s2])
 refine' tkH (i := 6) (oi := ⟨some 33, .load 35 (.tmp 6), 35, "law.go:98", #[⟨3, .guard⟩], some (3, false)⟩) (v := _) (yieldsIf_load_mid (by rfl) _ _ rfl w5.heap.size 0 rfl sc _ (fun _ h => range_keep h RS.out) Tryd.underlying35 rfl hiS.out) hHeld ?_
 (try simp only [Act.put, s0, s1, s2])
 refine wpAnyH_ready (rs := [5]) (by kernel_rfl) (by simp) ?_
 refine AllReadyH.cons (o := ⟨some 32, .call ⟨.value (.func 9), #[.tmp 31], #[28]⟩, 35, "law.go:98", #[⟨4, .data⟩, ⟨3, .chain⟩, ⟨3, .guard⟩], some (3, false)⟩) rfl (fun K hK => ?_) ?_
 rw [if_pos (by rfl)]; go_simp; refine (PW _ hHeld).out.mono ?_; rintro e w7 ⟨u, rfl, ug, ui, uo, b7⟩; have UG := hid ug; have UI := hid ui; have UO := hid uo; have B7 := hid b7; obtain ⟨uc, huc⟩ : ∃ uc, uc = u.cells := ⟨_, rfl⟩; rw [← huc]; have UC := hid huc; have SMW := fun (wx : World) (bx : Below w7.heap.size w7 wx) (cx : Below w6.heap.size w6 wx) => hid (show Calls Tryd.prog 8 #[.agg uc.toArray, .agg sc.toArray] wx _ from by rw [UC.out, SC.out]; exact rsame_walk u s (by rw [SI.out, UI.out, TI.out]) (by rw [SO.out, UO.out, TO.out]) wx (UG.out.below bx) (SG6.out.below cx) ⟨by rw [UI.out, TI.out]; exact SZ.out.1, by have h1 := congrArg List.length UO.out; have h2 := SZ.out.2.1; rw [← TO.out] at h2; simp only [List.length_map] at h1 h2; omega⟩ (fun o ho => SZ.out.2.2 o.bare (by rw [← TO.out, ← UO.out]; exact List.mem_map_of_mem ho))); clear ug ui uo b7 huc
 refine hK.out _ _ (hHeld.trans (B7.out.mono hHeld.size)) (fun hHeld => ?_)
 clear hK K
 (try simp only [s0, s1, s2])
 refine wpAnyH_ready (rs := [7]) (by kernel_rfl) (by simp) ?_
 refine AllReadyH.cons (o := ⟨some 34, .call ⟨.value (.func 8), #[.tmp 32, .tmp 33], #[35, 35]⟩, 4, "law.go:98", #[⟨5, .data⟩, ⟨6, .data⟩, ⟨5, .chain⟩, ⟨3, .guard⟩], some (3, false)⟩) rfl (fun K hK => ?_) ?_
 rw [if_pos (by rfl)]; go_simp; refine (SMW _ (Below.refl _ _) hHeld).out.mono ?_; rintro e w8 ⟨rfl, b8⟩; have B8 := hid b8; clear b8
 refine hK.out _ _ (hHeld.trans (B8.out.mono hHeld.size)) (fun hHeld => ?_)
 clear hK K
 (try simp only [s0, s1, s2])
 refine tkH (i := 8) (oi := ⟨some 35, .unOp .not 4 (.tmp 34), 4, "law.go:98", #[⟨7, .data⟩, ⟨3, .guard⟩], some (3, false)⟩) (v := ?v1005) (yi ?y1005) hHeld ?_
 case y1005 => (intro w _; go_simp; (try with_reducible rfl))
 (try simp only [Act.put, s0, s1, s2])
 refine tkH (i := 9) (oi := ⟨some 36, .pick (.tmp 30) (.const (.bool true)) (.tmp 35), 4, "law.go:98", #[⟨3, .data⟩, ⟨8, .data⟩], none⟩) (v := ?v1006) (yi ?y1006) hHeld ?_
 case y1006 => (intro w _; go_simp; (try with_reducible rfl))
 (try simp only [Act.put, s0, s1, s2])
 refine tkH (i := 10) (oi := ⟨some 37, .move (.tmp 36), 4, "law.go:98", #[⟨9, .data⟩, ⟨7, .chain⟩], none⟩) (v := ?v1007) (yi ?y1007) hHeld ?_
 case y1007 => (intro w _; go_simp; (try with_reducible rfl))
 (try simp only [Act.put, s0, s1, s2])
 refine tkH (i := 11) (oi := ⟨some 38, .move (.tmp 3), 22, "law.go:98", #[⟨10, .guard⟩], some (10, false)⟩) (v := ?v1008) (yi ?y1008) hHeld ?_
 case y1008 => (intro w _; go_simp; (try with_reducible rfl))
 (try simp only [Act.put, s0, s1, s2])
 refine tkH (i := 12) (oi := ⟨some 39, .move (.tmp 0), 22, "law.go:98", #[⟨10, .guard⟩], some (10, false)⟩) (v := ?v1009) (yi ?y1009) hHeld ?_
 case y1009 => (intro w _; go_simp; (try with_reducible rfl))
 (try simp only [Act.put, s0, s1, s2])
 refine wpAnyH_ready (rs := [13]) (by kernel_rfl) (by simp) ?_
 refine AllReadyH.cons (o := ⟨some 40, .call ⟨.value (.func 10), #[.tmp 38, .tmp 39], #[22, 22]⟩, 4, "law.go:98", #[⟨11, .data⟩, ⟨12, .data⟩, ⟨10, .chain⟩, ⟨10, .guard⟩], some (10, false)⟩) rfl (fun K hK => ?_) ?_
 rw [if_pos (by rfl)]; go_simp; refine (same_self ma a n mc n cap bs BS.out _ (SM6.out.below hHeld) (SL6.out.below hHeld)).mono ?_; rintro e w9 ⟨rfl, rfl⟩
 refine hK.out _ _ (hHeld) (fun hHeld => ?_)
 clear hK K
 (try simp only [s0, s1, s2])
 refine tkH (i := 14) (oi := ⟨some 41, .unOp .not 4 (.tmp 40), 4, "law.go:98", #[⟨13, .data⟩, ⟨10, .guard⟩], some (10, false)⟩) (v := ?v1010) (yi ?y1010) hHeld ?_
 case y1010 => (intro w _; go_simp; (try with_reducible rfl))
 (try simp only [Act.put, s0, s1, s2])
 refine tkH (i := 15) (oi := ⟨some 42, .pick (.tmp 37) (.const (.bool true)) (.tmp 41), 4, "law.go:98", #[⟨10, .data⟩, ⟨14, .data⟩], none⟩) (v := ?v1011) (yi ?y1011) hHeld ?_
 case y1011 => (intro w _; go_simp; (try with_reducible rfl))
 (try simp only [Act.put, s0, s1, s2])
 refine wpAnyH_done (by kernel_rfl) ?_ _
 rotate_left
 exact AllReadyH.nil
 exact AllReadyH.nil
 exact AllReadyH.nil
 have HH := hid hHeld
 clear hHeld v1
 by_cases hk0 : k = 0
 case neg =>
  have v2 : ((k : Int) != 0) = true := by rw [bne_iff_ne]; omega
  clear hk0
  go_wp2_with (fail)
  go_ret
  exact ⟨rfl, B6.out.trans (HH.out.mono B6.out.size)⟩
 have v2 : ((k : Int) != 0) = false := by rw [bne_eq_false_iff_eq]; omega
 obtain ⟨d1, d2, d3⟩ := decT_back BS.out (by rw [← KE.out]; exact hk0)
 have CZ := hid (show t.code = 0 from by rw [← codeP_tx, ← codeP_bare, TI.out, TO.out]; exact d1)
 have RCE := hid (show recsT t.ins t.outs = recsT (decT bs).1.1 (decT bs).1.2 from by rw [← recsT_bare, TI.out, TO.out])
 have EC := hid (show encC t = 0 from by unfold encC; rw [if_neg (by have := CZ.out; omega), RCE.out]; exact d2)
 have EB := hid (show encB t = bs from by unfold encB; rw [if_pos EC.out, RCE.out]; exact d3)
 clear d1 d2 d3 hk0
 go_upto_region 12 with (fail)
 have RTf := range_keep HH.out RT.out
 have BW := hid (B6.out.trans (HH.out.mono B6.out.size))
 have CE := fun (wx : World) (gx : t.good wx) => hid (show Calls Tryd.prog 11 #[.agg tc.toArray] wx _ from by rw [TC.out]; exact cenc_walk t wx gx)
 have TGf := hid (TG6.out.below HH.out)
 clear v2
 go_wp2_with (with_reducible refine wpList_load_mid rfl _ _ rfl w3.heap.size 0 rfl tc _ RTf Tryd.underlying28 rfl hiT.out ?_)
 refine (CE _ TGf.out).out.mono ?_
 rintro e wg ⟨v, rfl, sv, bg⟩
 rw [EB.out] at sv
 obtain ⟨va, vc, rfl, sl⟩ := sv
 rw [EC.out, show ((0 : Nat) : Int) = 0 from rfl]
 have BWg := hid (BW.out.trans (bg.mono BW.out.size))
 have SS := hid (same_self a va n cap bs.length vc bs BS.out wg (SL.out.below BWg.out) sl)
 clear bg sl RTf
 go_wp2_with (fail)
 refine SS.out.mono ?_
 rintro e wh ⟨rfl, rfl⟩
 go_wp2_with (fail)
 go_ret
 exact ⟨rfl, BWg.out⟩
theorem lawReads' (a : Option Addr) (n cap : Nat) (bs : List Nat) (hbs : ∀ d ∈ bs, d < 256) (hz : n * 1 ≤ 140737488351232) (w : World) (h : Sl .u8 w a n cap bs) (ht : Tabs w) :
  Calls Tryd.prog 3 #[.slice a n cap] w (fun e w' => e = .returned (.bool true) ∧ Below w.heap.size w w') :=
 lawReads a n cap bs hbs (by omega) w h ht
end Go.Proofs.YtnbmpgballopeaaDoor

/- The walks of a nil Hasher and of the statement ShaParts. -/
import Derived.Test.YtpncdgogefhjlaaDoorShaB
import Derived.Test.YtpncdgogefhjlaaDoorOpenG
namespace Go.Proofs.YtpncdgogefhjlaaDoor
open Go.RowKit

theorem write_nil (v : Value) (w : World) : Calls Tryd.prog 16 #[.pointer none, v] w fun e w' => e = .returned (.tuple #[]) ∧ w = w' := by
  go_enter Tryd.func16, Tryd.ntmps16
  go_wp2
  exact bodyPost_ret (v := .tuple #[]) (by simp [results, Tryd.results16, go_sem]) rfl ⟨rfl, rfl⟩
def za : Array Value := #[.int .u8 0, .int .u8 0, .int .u8 0, .int .u8 0, .int .u8 0, .int .u8 0, .int .u8 0, .int .u8 0, .int .u8 0, .int .u8 0, .int .u8 0, .int .u8 0, .int .u8 0, .int .u8 0, .int .u8 0, .int .u8 0, .int .u8 0, .int .u8 0, .int .u8 0, .int .u8 0, .int .u8 0, .int .u8 0, .int .u8 0, .int .u8 0, .int .u8 0, .int .u8 0, .int .u8 0, .int .u8 0, .int .u8 0, .int .u8 0, .int .u8 0, .int .u8 0]
def z32 : Value := .agg za
theorem za_one : za.all (·.oneCell') = true := by kernel_rfl
theorem z32_hv : z32 = hv (List.replicate 32 0) := by unfold z32 hv za; rw [nums_replicate]; rfl
theorem hsum_nil (w : World) : Calls Tryd.prog 15 #[.pointer none] w fun e w' => e = .returned z32 ∧ Below w.heap.size w w' := by
  have h0 := hid (heap_alloc_new w (.cells #[.int .u8 0, .int .u8 0, .int .u8 0, .int .u8 0, .int .u8 0, .int .u8 0, .int .u8 0, .int .u8 0, .int .u8 0, .int .u8 0, .int .u8 0, .int .u8 0, .int .u8 0, .int .u8 0, .int .u8 0, .int .u8 0, .int .u8 0, .int .u8 0, .int .u8 0, .int .u8 0, .int .u8 0, .int .u8 0, .int .u8 0, .int .u8 0, .int .u8 0, .int .u8 0, .int .u8 0, .int .u8 0, .int .u8 0, .int .u8 0, .int .u8 0, .int .u8 0] 26))
  have B := hid (below_setRow ((Below.refl w.heap.size w).alloc (Nat.le_refl _) (.cells #[.int .u8 0, .int .u8 0, .int .u8 0, .int .u8 0, .int .u8 0, .int .u8 0, .int .u8 0, .int .u8 0, .int .u8 0, .int .u8 0, .int .u8 0, .int .u8 0, .int .u8 0, .int .u8 0, .int .u8 0, .int .u8 0, .int .u8 0, .int .u8 0, .int .u8 0, .int .u8 0, .int .u8 0, .int .u8 0, .int .u8 0, .int .u8 0, .int .u8 0, .int .u8 0, .int .u8 0, .int .u8 0, .int .u8 0, .int .u8 0, .int .u8 0, .int .u8 0] 26)) (Nat.le_refl _) za)
  have h1 := hid (setRow_heap (w.alloc (.cells #[.int .u8 0, .int .u8 0, .int .u8 0, .int .u8 0, .int .u8 0, .int .u8 0, .int .u8 0, .int .u8 0, .int .u8 0, .int .u8 0, .int .u8 0, .int .u8 0, .int .u8 0, .int .u8 0, .int .u8 0, .int .u8 0, .int .u8 0, .int .u8 0, .int .u8 0, .int .u8 0, .int .u8 0, .int .u8 0, .int .u8 0, .int .u8 0, .int .u8 0, .int .u8 0, .int .u8 0, .int .u8 0, .int .u8 0, .int .u8 0, .int .u8 0, .int .u8 0] 26)) w.heap.size _ za _ _ h0.out)
  go_enter Tryd.func15, Tryd.ntmps15
  go_wp2_with (refine wpList_store_row rfl _ _ _ rfl w.heap.size za rfl rfl _ _ h0.out infoH rfl za_one ?_)
  (try simp only [Exit.inBlock, Exit.then])
  refine bodyPost_ret (results_cell_row rfl _ _ w.heap.size _ za _ _ rfl h1.out Tryd.underlying26 rfl infoH) rfl ?_
  exact ⟨rfl, B.out⟩
theorem z32_rules : (∀ (op : BinOp) (x y : Operand) (w : World), (eqGuard op 26 x y z32 (.agg #[.int .u8 0, .int .u8 0, .int .u8 0, .int .u8 0, .int .u8 0, .int .u8 0, .int .u8 0, .int .u8 0, .int .u8 0, .int .u8 0, .int .u8 0, .int .u8 0, .int .u8 0, .int .u8 0, .int .u8 0, .int .u8 0, .int .u8 0, .int .u8 0, .int .u8 0, .int .u8 0, .int .u8 0, .int .u8 0, .int .u8 0, .int .u8 0, .int .u8 0, .int .u8 0, .int .u8 0, .int .u8 0, .int .u8 0, .int .u8 0, .int .u8 0, .int .u8 0])).run Tryd.prog w = .ok () w) ∧ (∀ w : World, (binOp .eql 26 z32 (.agg #[.int .u8 0, .int .u8 0, .int .u8 0, .int .u8 0, .int .u8 0, .int .u8 0, .int .u8 0, .int .u8 0, .int .u8 0, .int .u8 0, .int .u8 0, .int .u8 0, .int .u8 0, .int .u8 0, .int .u8 0, .int .u8 0, .int .u8 0, .int .u8 0, .int .u8 0, .int .u8 0, .int .u8 0, .int .u8 0, .int .u8 0, .int .u8 0, .int .u8 0, .int .u8 0, .int .u8 0, .int .u8 0, .int .u8 0, .int .u8 0, .int .u8 0, .int .u8 0])).run Tryd.prog w = .ok (.bool true) w) := by
  have e : (.agg #[.int .u8 0, .int .u8 0, .int .u8 0, .int .u8 0, .int .u8 0, .int .u8 0, .int .u8 0, .int .u8 0, .int .u8 0, .int .u8 0, .int .u8 0, .int .u8 0, .int .u8 0, .int .u8 0, .int .u8 0, .int .u8 0, .int .u8 0, .int .u8 0, .int .u8 0, .int .u8 0, .int .u8 0, .int .u8 0, .int .u8 0, .int .u8 0, .int .u8 0, .int .u8 0, .int .u8 0, .int .u8 0, .int .u8 0, .int .u8 0, .int .u8 0, .int .u8 0] : Value) = hv (List.replicate 32 0) := z32_hv
  rw [z32_hv, e]
  have hl : (List.replicate 32 0).length = 32 := List.length_replicate
  have hz : ∀ d ∈ List.replicate 32 0, d < 256 := by intro d hd; rw [List.eq_of_mem_replicate hd]; decide
  exact ⟨guard_hv _ _, fun w => by rw [eql_hv hl hl hz hz, decide_eq_true rfl]⟩
theorem flat_lt {ls : List BS} (h : ∀ l ∈ ls, ∀ d ∈ l.v, d < 256) : ∀ d ∈ flat ls, d < 256 := by
  intro d hd
  obtain ⟨l, hl, hd⟩ := List.mem_flatMap.1 hd
  exact h l hl d hd
set_option maxRecDepth 100000 in
set_option maxHeartbeats 4000000 in
theorem lawParts (a : Option Addr) (n cap : Nat) (ls : List BS) (ask : Int) (w : World) (h : Parts w a n cap ls) (ht : Tabs w) :
    Calls Tryd.prog 5 #[.slice a n cap, .int .i64 ask] w fun e w' => e = .returned (.bool true) ∧ Below w.heap.size w w' := by
  have HL := hid h.2.1
  have HI := hid h
  have HT := hid ht
  have HX := hid (fun l hl => (h.2.2 l hl).2.1)
  clear h ht
  go_enter Tryd.func5, Tryd.ntmps5
  go_wp2_with fail
  refine (head_walk _ HT.out).mono ?_
  rintro e w1 ⟨rfl, b1⟩
  by_cases hn : n ≤ 40
  · have t1 : decide ((n : Int) > 40) = false := by rw [decide_eq_false_iff_not]; omega
    have HB1 := hid b1
    clear b1
    go_wp2_with fail
    clear t1
    refine (new_walk _ (HT.out.below HB1.out)).mono ?_
    rintro e w2 ⟨g, cur0, T, rfl, hg, b2, hh0, hA0⟩
    have HB2 := hid (bstep HB1.out b2)
    have hgw : w.heap.size ≤ g := by have := HB1.out.size; omega
    have hg2 : g < w2.heap.size := (Array.getElem?_eq_some_iff.1 hh0).1
    have n0 := hid (show g ≠ 0 by have := World.block_lt_of_cell? w _ (HT.out.1 0 (by decide)); simp at this; omega)
    have n1 := hid (show g ≠ 1 by have := World.block_lt_of_cell? w _ (HT.out.2 0 (by decide)); simp at this; omega)
    have bal := (Below.refl w2.heap.size w2).alloc (Nat.le_refl _) (.cells #[] 5)
    have O0 := hid (World.ownsRow_made (base := w2.heap.size) (e := 5) (size := 1) w2 #[] 0 (Nat.le_refl _) (by simp) (by simp))
    have HH0 := hid (heap_keep hh0 bal)
    have HB3 := hid (HB2.out.trans (bal.mono HB2.out.size))
    have HS3 := hid bal.size
    have HA0 := hid hA0
    clear b2 hh0 hA0 hg bal
    go_wp2
    go_loopw [6, 21] (fun x6 x0 wr => ∃ (i : Nat) (v : Value), i ≤ n ∧ x0 = .int .i64 i ∧ v = x6 ∧ Below w.heap.size w wr ∧ w2.heap.size ≤ wr.heap.size ∧ (flat (ls.take i)).length ≤ 500 * i ∧ wr.ownsRow w2.heap.size 5 1 v (flat (ls.take i)).length (nums .u8 (flat (ls.take i))) ∧ ∃ cur S R k, wr.heap[g]? = some (.cells cur T (0, 0)) ∧ HsAt cur 0 S R k (flat (ls.take i)).length ∧ Took (flat (ls.take i)) S R k) (fun _ x0 _ => n - (intOf x0).toNat)
    case atStart => exact ⟨0, _, by omega, rfl, rfl, HB3.out, HS3.out, by simp [flat], O0.out, cur0, H0, _, 0, HH0.out, HA0.out, Took.start (by rw [List.length_replicate]) rep_lt⟩
    case round =>
      obtain ⟨i, v, hi, rfl, rfl, hb, hbs, hle, hown, cur, S, R, k, hh, hA, hTk⟩ := hrel
      clear HH0 HA0 O0 HB3 HS3
      have HB := hid hb
      have HH := hid hh
      have HA := hid hA
      have HTK := hid hTk
      have HO := hid hown
      have HTr := hid (HT.out.below hb)
      have hXi := hid (flat_lt (ls := ls.take i) fun l hl => HX.out l (List.mem_of_mem_take hl))
      obtain ⟨av, cv, rfl, rv⟩ := Rd.of_owns hown
      have SV := hid (show Sl .u8 wr av (flat (ls.take i)).length cv (flat (ls.take i)) from rv)
      clear hh hA hTk hown rv
      by_cases hlt : i < n
      · obtain ⟨l, hl⟩ := bget_some HL.out hlt
        obtain ⟨b, off, rfl, c1, gd⟩ := (HI.out.below hb).cells hl
        have gd0 := HI.out.2.2 l (List.mem_of_getElem? hl)
        have HAP := hid (ApH.old gd0.1 hgw)
        have HGD := hid gd
        have HE := hid (flat_take_succ hl)
        have HLl := hid hl
        clear gd gd0 hl hb
        by_cases hl5 : l.v.length ≤ 500
        · have t5 : decide ((l.v.length : Int) > 500) = false := by rw [decide_eq_false_iff_not]; omega
          have hlA : (flat (ls.take i)).length ≤ 20000 := by omega
          have hleN := hid (show (flat (ls.take (i + 1))).length ≤ 500 * (i + 1) by rw [HE.out, List.length_append]; omega)
          by_cases hask : (i : Int) = ask
          · subst hask
            have r1 := guard_hv (sha (flat (ls.take i))) (sha (flat (ls.take i)))
            have r2 : ∀ w, (binOp .neq 26 (hv (sha (flat (ls.take i)))) (hv (sha (flat (ls.take i))))).run Tryd.prog w = .ok (.bool false) w := fun w => by rw [neq_hv (sha_len _) (sha_len _) (sha_lt _) (sha_lt _), decide_eq_true rfl]; rfl
            go_wp2_with fail
            refine (hsum_walk g 0 T cur S R k (flat (ls.take i)) _ HH.out HA.out HTK.out (by omega) HTr.out).mono ?_
            rintro e wA ⟨rfl, bA⟩
            have bN := bA.trans (((Below.refl wA.heap.size wA).alloc (Nat.le_refl _) (.cells #[.slice av (flat (ls.take i)).length cv] 22)).mono bA.size)
            go_wp2_with fail
            refine (sum1_walk _ av (flat (ls.take i)).length cv (flat (ls.take i)) _ (cell_new _ _ _) (SV.out.below bN) hXi.out (by omega) (HTr.out.below bN)).mono ?_
            rintro e wB ⟨rfl, bB⟩
            have bW := bN.trans (bB.mono bN.size)
            clear bA bN bB c1
            have HBW := hid (HB.out.trans (bW.mono HB.out.size))
            have HTB := hid (HTr.out.below bW)
            have HHB := hid (heap_keep HH.out bW)
            have HOB := hid (own_below HO.out bW)
            have HGB := hid (HGD.out.below bW)
            have hbs2 : w2.heap.size ≤ wB.heap.size := Nat.le_trans hbs bW.size
            go_wp2_with fail
            refine (write_walk g 0 T cur S R k (flat (ls.take i)) l.a l.v.length l.c l.v _ HHB.out HA.out HTK.out HGB.out.1 HAP.out HGB.out.2.1 (by omega) HTB.out n0.out n1.out).mono ?_
            rintro e wC ⟨rfl, fC, cur', S', R', k', hh', _, hA', hTk'⟩
            rw [← HE.out] at hA' hTk'
            have HBC := hid (HBW.out.trans (fC.below hgw HBW.out.size))
            have HOC := hid (Far.own HOB.out fC (by intro hb; have := (HOB.out.lt _ hb).1; omega))
            have HGC := hid (HI.out.2.2 l (List.mem_of_getElem? (HLl.out)) |>.below HBC.out)
            have hbs3 : w2.heap.size ≤ wC.heap.size := Nat.le_trans hbs2 fC.size
            have H1 := hid hh'
            have H2 := hid hA'
            have H3 := hid hTk'
            clear hh' hA' hTk' fC bW r1 r2
            go_wp2_with (at_builtin; refine wpList_cat rfl _ _ 22 rfl tyBs w2.heap.size HOC.out rfl rfl HGC.out.1 (nums_oneCell _ _) ?c1 ?c2 ?c3 ?_)
            case c1 => omega
            case c2 => unfold maxLen; omega
            case c3 => exact hbs3
            intro v4 w4 own4 b4 hs4 _
            rw [nums_append, ← HE.out] at own4
            have OW := hid (show w4.ownsRow w2.heap.size 5 1 v4 (flat (ls.take (i + 1))).length (nums .u8 (flat (ls.take (i + 1)))) by rw [show (flat (ls.take (i + 1))).length = (flat (ls.take i)).length + l.v.length by rw [HE.out, List.length_append]]; exact own4)
            have B4 := hid (HBC.out.trans (b4.mono HB2.out.size))
            have HG4 := hid (show w4.heap[g]? = some (.cells cur' T (0, 0)) by rw [b4.block g hg2]; exact H1.out)
            have hbs4 := hid (Nat.le_trans hbs3 hs4)
            clear own4 b4 hs4
            go_wp2
            go_roundw
            case rel => exact ⟨i + 1, v4, by omega, by go_num, rfl, B4.out, hbs4.out, hleN.out, OW.out, cur', S', R', k', HG4.out, H2.out, H3.out⟩
            case measure => simp [intOf]; omega
          · have tk : ((i : Int) == ask) = false := by rw [beq_eq_false_iff_ne]; exact hask
            have bW := Below.refl wr.heap.size wr
            clear hask
            have HBW := hid (HB.out.trans (bW.mono HB.out.size))
            have HTB := hid (HTr.out.below bW)
            have HHB := hid (heap_keep HH.out bW)
            have HOB := hid (own_below HO.out bW)
            have HGB := hid (HGD.out.below bW)
            have hbs2 : w2.heap.size ≤ wr.heap.size := Nat.le_trans hbs bW.size
            go_wp2_with fail
            refine (write_walk g 0 T cur S R k (flat (ls.take i)) l.a l.v.length l.c l.v _ HHB.out HA.out HTK.out HGB.out.1 HAP.out HGB.out.2.1 (by omega) HTB.out n0.out n1.out).mono ?_
            rintro e wC ⟨rfl, fC, cur', S', R', k', hh', _, hA', hTk'⟩
            rw [← HE.out] at hA' hTk'
            have HBC := hid (HBW.out.trans (fC.below hgw HBW.out.size))
            have HOC := hid (Far.own HOB.out fC (by intro hb; have := (HOB.out.lt _ hb).1; omega))
            have HGC := hid (HI.out.2.2 l (List.mem_of_getElem? (HLl.out)) |>.below HBC.out)
            have hbs3 : w2.heap.size ≤ wC.heap.size := Nat.le_trans hbs2 fC.size
            have H1 := hid hh'
            have H2 := hid hA'
            have H3 := hid hTk'
            clear hh' hA' hTk' fC bW
            go_wp2_with (at_builtin; refine wpList_cat rfl _ _ 22 rfl tyBs w2.heap.size HOC.out rfl rfl HGC.out.1 (nums_oneCell _ _) ?c1 ?c2 ?c3 ?_)
            case c1 => omega
            case c2 => unfold maxLen; omega
            case c3 => exact hbs3
            intro v4 w4 own4 b4 hs4 _
            rw [nums_append, ← HE.out] at own4
            have OW := hid (show w4.ownsRow w2.heap.size 5 1 v4 (flat (ls.take (i + 1))).length (nums .u8 (flat (ls.take (i + 1)))) by rw [show (flat (ls.take (i + 1))).length = (flat (ls.take i)).length + l.v.length by rw [HE.out, List.length_append]]; exact own4)
            have B4 := hid (HBC.out.trans (b4.mono HB2.out.size))
            have HG4 := hid (show w4.heap[g]? = some (.cells cur' T (0, 0)) by rw [b4.block g hg2]; exact H1.out)
            have hbs4 := hid (Nat.le_trans hbs3 hs4)
            clear own4 b4 hs4
            go_wp2
            go_roundw
            case rel => exact ⟨i + 1, v4, by omega, by go_num, rfl, B4.out, hbs4.out, hleN.out, OW.out, cur', S', R', k', HG4.out, H2.out, H3.out⟩
            case measure => simp [intOf]; omega
        · have t5 : decide ((l.v.length : Int) > 500) = true := by rw [decide_eq_true_eq]; omega
          go_wp2
          go_ret
          exact ⟨rfl, HB.out⟩
      · have hge : n ≤ i := by omega
        have et : ls.take i = ls := List.take_of_length_le (by rw [HL.out]; exact hge)
        rw [et] at HA HTK SV hXi hle
        rw [et]
        have hl4 : (flat ls).length ≤ 20000 := by omega
        have hl61 : (flat ls).length < 2305843009213693952 := by omega
        have hn147 : (flat ls).length ≤ 140737488351232 := by omega
        have r1 := guard_hv (sha (flat ls)) (sha (flat ls))
        have r2 : ∀ w, (binOp .eql 26 (hv (sha (flat ls))) (hv (sha (flat ls)))).run Tryd.prog w = .ok (.bool true) w := fun w => by rw [eql_hv (sha_len _) (sha_len _) (sha_lt _) (sha_lt _), decide_eq_true rfl]
        obtain ⟨r3, r4⟩ := z32_rules
        clear et hle hb HO
        go_wp2_with fail
        refine (write_nil _ _).mono ?_
        rintro e w' ⟨rfl, rfl⟩
        go_wp2_with fail
        refine (hsum_walk g 0 T cur S R k (flat ls) _ HH.out HA.out HTK.out hl61 HTr.out).mono ?_
        rintro e wA ⟨rfl, bA⟩
        have bN := bA.trans (((Below.refl wA.heap.size wA).alloc (Nat.le_refl _) (.cells #[.slice av (flat ls).length cv] 22)).mono bA.size)
        go_wp2_with fail
        refine (sum1_walk _ av (flat ls).length cv (flat ls) _ (cell_new _ _ _) (SV.out.below bN) hXi.out hn147 (HTr.out.below bN)).mono ?_
        rintro e wB ⟨rfl, bB⟩
        have bW := bN.trans (bB.mono bN.size)
        clear bA bN bB
        go_wp2_with fail
        refine (hsum_walk g 0 T cur S R k (flat ls) _ (heap_keep HH.out bW) HA.out HTK.out hl61 (HTr.out.below bW)).mono ?_
        rintro e wC ⟨rfl, bC⟩
        have bV := bW.trans (bC.mono bW.size)
        have HV := hid (HB.out.trans (bV.mono HB.out.size))
        clear bC bW
        go_wp2_with fail
        refine (sum_walk a n cap ls _ (HI.out.below HV.out) hl61 (HT.out.below HV.out)).mono ?_
        rintro e wD ⟨rfl, bD⟩
        have HD := hid (HV.out.trans (bD.mono HV.out.size))
        clear bD bV
        go_wp2_with fail
        refine (hsum_nil _).mono ?_
        rintro e wE ⟨rfl, bE⟩
        have HF := hid (HD.out.trans (bE.mono HD.out.size))
        clear bE
        go_wp2
        go_ret
        exact ⟨rfl, HF.out⟩
  · have t1 : decide ((n : Int) > 40) = true := by rw [decide_eq_true_eq]; omega
    go_wp2
    go_ret
    exact ⟨rfl, b1⟩
theorem opens_bytesP {H : Type} {enc : TypeId × Value → H} {W : World} : Opens enc Tryd.prog W 22 SLo.cells (SLo.good W 1 1 (fun z : Nat => [Value.int .u8 (z : Int)]) (fun z => z < 256)) :=
  opens_slice Tryd.underlying22 (opens_nat (fun _ => u8_nat) Tryd.underlying5) (by kernel_rfl) (by kernel_rfl) (fun _ => rfl) (by decide)
theorem opens_parts {H : Type} {enc : TypeId × Value → H} {W : World} : Opens enc Tryd.prog W 38 SLo.cells (SLo.good W 1 24 BS.cells (BS.good W)) := by
  refine opens_slice Tryd.underlying38 (Opens.map opens_bytesP (fun x => ⟨x.a, x.c, x.xs⟩) (fun _ => rfl) ?_) (by kernel_rfl) (by kernel_rfl) (fun _ => rfl) (by decide)
  intro s hs
  obtain ⟨h1, h2, h3⟩ := SLo.nums (k := .u8) (W := W) (bytes := 1) (M := 256) (s := s) hs
  exact ⟨h1, h2, by simpa using h3⟩
theorem lawParts' (a : Option Addr) (l c : Nat) (ls : List BS) (ask : Int) (_hm : (Lit.int .i64 ask).wf = true) (w : World) (hl : ls.length = l) (h : SLo.good w 1 24 BS.cells (BS.good w) ⟨a, c, ls⟩) (ht : Tabs w) :
    Calls Tryd.prog 5 #[.slice a l c, .int .i64 ask] w fun e w' => e = .returned (.bool true) ∧ Below w.heap.size w w' := by
  subst hl
  exact lawParts a ls.length c ls ask w ⟨h.1, rfl, h.2.1⟩ ht
end Go.Proofs.YtpncdgogefhjlaaDoor

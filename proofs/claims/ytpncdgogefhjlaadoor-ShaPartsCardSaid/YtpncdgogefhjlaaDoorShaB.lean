/- The walk of the statement ShaBytes. -/
import Derived.Test.YtpncdgogefhjlaaDoorShaL
namespace Go.Proofs.YtpncdgogefhjlaaDoor
open Go.RowKit

theorem take_drop_succ {xs : List Nat} {i : Nat} : xs.take i ++ (xs.drop i).take 1 = xs.take (i + 1) := by
  rw [List.take_add]
theorem heap_keep {w W : World} {g : Nat} {c : Obj} (h : w.heap[g]? = some c) (b : Below w.heap.size w W) : W.heap[g]? = some c := by rw [b.block g (Array.getElem?_eq_some_iff.1 h).1]; exact h
theorem cell_new (Y : World) (v : Value) (T : TypeId) : (Y.alloc (.cells #[v] T)).cell? ⟨Y.heap.size, 0, none⟩ = some v := by rw [cell_of_row _ _ 0 _ _ (0, 0) (heap_alloc_new Y _)]; rfl
theorem cell_after {Y wA : World} {v : Value} {T : TypeId} (b : Below (Y.alloc (.cells #[v] T)).heap.size (Y.alloc (.cells #[v] T)) wA) : wA.cell? ⟨Y.heap.size, 0, none⟩ = some v := by
  rw [b.cell (p := ⟨Y.heap.size, 0, none⟩) (by simp)]; exact cell_new Y v T
theorem cell_afterD {Y wA : World} {v : Value} {T : TypeId} (b : Below ((Y.alloc (.cells #[v] T)).drew).heap.size ((Y.alloc (.cells #[v] T)).drew) wA) : wA.cell? ⟨Y.heap.size, 0, none⟩ = some v :=
  cell_after (Y := Y) (v := v) (T := T) (((Below.refl _ _).drew).trans b)
set_option maxRecDepth 100000 in
set_option maxHeartbeats 4000000 in
theorem lawBytes (a : Option Addr) (n cap : Nat) (bs : List Nat) (hbs : ∀ d ∈ bs, d < 256) (_hz : n * 1 ≤ 140737488351232) (w : World) (h : Sl .u8 w a n cap bs) (ht : Tabs w) :
    Calls Tryd.prog 6 #[.slice a n cap] w fun e w' => e = .returned (.bool true) ∧ Below w.heap.size w w' := by
  have HL := hid h.len
  have HI := hid h
  have HX := hid hbs
  have HT := hid ht
  clear h hbs ht
  go_enter Tryd.func6, Tryd.ntmps6
  go_wp2_with fail
  refine (head_walk _ HT.out).mono ?_
  rintro e w1 ⟨rfl, b1⟩
  by_cases hn : n ≤ 300
  · have t1 : decide ((n : Int) > 300) = false := by rw [decide_eq_false_iff_not]; omega
    have HB1 := hid b1
    clear b1
    go_wp2_with fail
    clear t1
    refine (new_walk _ (HT.out.below HB1.out)).mono ?_
    rintro e w2 ⟨g, cur0, T, rfl, hg, b2, hh0, hA0⟩
    have HB2 := hid (bstep HB1.out b2)
    have hgw : w.heap.size ≤ g := by have := HB1.out.size; omega
    have n0 := hid (show g ≠ 0 by have := World.block_lt_of_cell? w _ (HT.out.1 0 (by decide)); simp at this; omega)
    have n1 := hid (show g ≠ 1 by have := World.block_lt_of_cell? w _ (HT.out.2 0 (by decide)); simp at this; omega)
    have HH0 := hid hh0
    have HA0 := hid hA0
    clear b2 hh0 hA0 hg
    go_wp2
    go_loopw [15] (fun x0 wr => ∃ i : Nat, i ≤ n ∧ x0 = .int .i64 i ∧ Below w.heap.size w wr ∧ ∃ cur S R k, wr.heap[g]? = some (.cells cur T (0, 0)) ∧ HsAt cur 0 S R k (bs.take i).length ∧ Took (bs.take i) S R k) (fun x0 _ => n - (intOf x0).toNat)
    case atStart => exact ⟨0, by omega, rfl, HB2.out, cur0, H0, _, 0, HH0.out, HA0.out, Took.start (by rw [List.length_replicate]) rep_lt⟩
    case round =>
      obtain ⟨i, hi, rfl, hb, cur, S, R, k, hh, hA, hTk⟩ := hrel
      clear HH0 HA0
      have HB := hid hb
      have HH := hid hh
      have HA := hid hA
      have HTK := hid hTk
      have HTr := hid (HT.out.below hb)
      have HSr := hid (HI.out.below hb)
      clear hb hh hA hTk
      by_cases hlt : i < n
      · obtain ⟨i1, hi1⟩ : ∃ i1 : Nat, i1 = i + 1 := ⟨_, rfl⟩
        have e1 : (i : Int) + 1 = (i1 : Int) := by omega
        have hle : i ≤ i1 := by omega
        have hle1 : i1 ≤ n := by omega
        have hs1 : i1 - i = 1 := by omega
        have HS1 := hid hs1
        have HI1 := hid hi1
        have ETK := hid (show bs.take i ++ (bs.drop i).take 1 = bs.take i1 by rw [hi1]; exact take_drop_succ)
        have hcap : n ≤ cap := HSr.out.2.1
        obtain ⟨bk, off, hak, _⟩ := HI.out.opened
        obtain rfl := hak (by omega)
        clear hak
        clear hs1 hi1
        go_wp2_with (refine wpList_cutLH rfl _ _ _ rfl HSr.out rfl rfl rfl hle hle1 ?_)
        intro ad s1 ap1
        rw [HS1.out] at s1 ap1 ⊢
        have S1 := hid s1
        have AP := hid (ap1 g (ApH.old HI.out hgw))
        clear s1 ap1
        go_wp2_with fail
        refine (write_walk g 0 T cur S R k (bs.take i) ad 1 _ ((bs.drop i).take 1) _ HH.out HA.out HTK.out S1.out AP.out (fun d hd => HX.out d (List.mem_of_mem_drop (List.mem_of_mem_take hd))) (by rw [List.length_take]; omega) HTr.out n0.out n1.out).mono ?_
        rintro e w3 ⟨rfl, f3, cur3, S3, R3, k3, hh3, _, hA3, hT3⟩
        rw [ETK.out] at hA3 hT3
        have B3 := HB.out.trans (f3.below hgw HB.out.size)
        have HH3 := hid hh3
        have HA3 := hid hA3
        have HT3 := hid hT3
        have HR3 := hid (HT.out.below B3)
        have S3s := hid ((HI.out.below B3).take (m := i1) hle1)
        have HB3 := hid B3
        have hl3 : (bs.take i1).length < 2305843009213693952 := by rw [List.length_take]; omega
        clear hh3 hA3 hT3 B3 f3 S1 AP HH HA HTK HTr HSr
        have j1 : (0 : Int) ≤ (i1 : Int) := by omega
        have j2 : (i1 : Int) ≤ (cap : Int) := by omega
        have jw : IntKind.i64.wrap (i1 : Int) = (i1 : Int) := by
          have : i1 < 9223372036854775808 := by omega
          clear e1
          simp [IntKind.wrap, IntKind.signed, IntKind.bits]; omega
        go_wp2_with fail
        have bX := Below.refl w3.heap.size w3
        have r1 := guard_hv (sha (bs.take i1)) (sha (bs.take i1))
        have r2 : ∀ w, (binOp .neq 26 (hv (sha (bs.take i1))) (hv (sha (bs.take i1)))).run Tryd.prog w = .ok (.bool false) w := fun w => by rw [neq_hv (sha_len _) (sha_len _) (sha_lt _) (sha_lt _), decide_eq_true rfl]; rfl
        have hxi := hid (show ∀ d ∈ bs.take i1, d < 256 from fun d hd => HX.out d (List.mem_of_mem_take hd))
        have hi147 : i1 ≤ 140737488351232 := by omega
        go_wp2_with fail
        go_region_held3 (fun _ => True) (exact trivial)
          (first
            | (go_at_call 15; (with_reducible refine (hsum_walk g 0 T cur3 S3 R3 k3 (bs.take i1) _ ?_ HA3.out HT3.out hl3 ?_).mono ?_); (refine heap_keep HH3.out ?_; (first | exact bX | exact bX.drew | exact bX.alloc bX.size _ | exact (bX.drew).alloc bX.size _)); (refine HR3.out.below ?_; (first | exact bX | exact bX.drew | exact bX.alloc bX.size _ | exact (bX.drew).alloc bX.size _)); rintro e wA ⟨rfl, bA⟩; (first | (have cX := cell_after bA) | (have cX := cell_afterD bA) | skip); (have bN : Below w3.heap.size w3 wA := by (refine Below.trans ?_ (bA.mono ?_)); (first | exact bX | exact bX.drew | exact bX.alloc bX.size _ | exact (bX.drew).alloc bX.size _); (first | exact bX.size | (simp; done) | (have := bX.size; simp; omega))); clear bX; have bX := bN; clear bN)
            | (go_at_call 10; (with_reducible refine (sum1_walk _ (some ⟨bk, off, none⟩) i1 cap (bs.take i1) _ ?_ ?_ hxi.out hi147 ?_).mono ?_); (first | exact cX | exact cell_new _ _ _); (refine S3s.out.below ?_; (first | exact bX | exact bX.drew | exact bX.alloc bX.size _ | exact (bX.drew).alloc bX.size _)); (refine HR3.out.below ?_; (first | exact bX | exact bX.drew | exact bX.alloc bX.size _ | exact (bX.drew).alloc bX.size _)); rintro e wB ⟨rfl, bB⟩; (have bN : Below w3.heap.size w3 wB := by (refine Below.trans ?_ (bB.mono ?_)); (first | exact bX | exact bX.drew | exact bX.alloc bX.size _ | exact (bX.drew).alloc bX.size _); (first | exact bX.size | (simp; done) | (have := bX.size; simp; omega))); clear bX; have bX := bN; clear bN))
        all_goals
          have HB4 := hid (HB3.out.trans (bX.mono HB3.out.size))
          have HH4 := hid (heap_keep HH3.out bX)
          clear bX r1 r2
          (try clear cX)
          go_wp2
          go_roundw
          case rel => exact ⟨i1, by omega, rfl, HB4.out, cur3, S3, R3, k3, HH4.out, HA3.out, HT3.out⟩
          case measure => simp [intOf]; omega
      · have hge : n ≤ i := by omega
        have et : bs.take i = bs := List.take_of_length_le (by rw [HL.out]; exact hge)
        rw [et] at HA HTK
        have hl4 : bs.length < 2305843009213693952 := by rw [HL.out]; omega
        have hn147 : n ≤ 140737488351232 := by omega
        have r1 := guard_hv (sha bs) (sha bs)
        have r2 : ∀ w, (binOp .eql 26 (hv (sha bs)) (hv (sha bs))).run Tryd.prog w = .ok (.bool true) w := fun w => by rw [eql_hv (sha_len _) (sha_len _) (sha_lt _) (sha_lt _), decide_eq_true rfl]
        clear et
        go_wp2_with fail
        refine (hsum_walk g 0 T cur S R k bs _ HH.out HA.out HTK.out hl4 HTr.out).mono ?_
        rintro e wA ⟨rfl, bA⟩
        have bN := (Below.refl wA.heap.size wA).alloc (Nat.le_refl _) (.cells #[.slice a n cap] 22)
        have HBA := hid (HB.out.trans (bA.mono HB.out.size))
        have HBN := hid (HBA.out.trans (bN.mono HBA.out.size))
        clear bA
        go_wp2_with fail
        refine (sum1_walk _ a n cap bs _ (cell_new _ _ _) (HI.out.below HBN.out) HX.out hn147 (HT.out.below HBN.out)).mono ?_
        rintro e wB ⟨rfl, bB⟩
        have BF := hid (HBN.out.trans (bB.mono HBN.out.size))
        clear bB bN
        go_wp2
        go_ret
        exact ⟨rfl, BF.out⟩
  · have t1 : decide ((n : Int) > 300) = true := by rw [decide_eq_true_eq]; omega
    go_wp2
    go_ret
    exact ⟨rfl, b1⟩
end Go.Proofs.YtpncdgogefhjlaaDoor

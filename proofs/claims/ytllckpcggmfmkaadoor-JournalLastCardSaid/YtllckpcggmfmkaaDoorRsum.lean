/- The walk of the reference's (Tables).Sum. -/
import Derived.Test.YtllckpcggmfmkaaDoorHq2
import Derived.Test.YtllckpcggmfmkaaDoorShaT
import Derived.Deep.MidRow
namespace Go.Proofs.YtllckpcggmfmkaaDoor
open Go.RowKit

theorem row_range' {w : World} {g : Nat} {t : TypeId} {cs : Array Value} {L : List Value} (h : w.heap[g]? = some (.cells cs t (0, 0))) (hl : cs.toList = L) : w.rangeAt g 0 L := fun j v hj => by
  subst hl
  rw [Nat.zero_add, cell_of_row _ g _ _ t (0, 0) h, ← Array.getElem?_toList]; exact hj
theorem rangeAt_cut {w : World} {b : Nat} {L : List Value} (h : w.rangeAt b 0 L) (o n : Nat) : w.rangeAt b o ((L.drop o).take n) := fun j v hj => by
  rw [List.getElem?_take] at hj
  split at hj
  · rw [List.getElem?_drop] at hj
    have := h (o + j) v hj
    rwa [Nat.zero_add] at this
  · cases hj
theorem heap_keep' {w w' : World} {g : Nat} {x : Obj} (h : w.heap[g]? = some x) (b : Below w.heap.size w w') : w'.heap[g]? = some x := (b.block g (Array.getElem?_eq_some_iff.1 h).1).trans h
theorem H0_len : H0.length = 8 := rfl
theorem K0_len : K0.length = 64 := rfl
theorem tab_S : ((nums .u32 (H0 ++ K0)).drop 0).take 8 = nums .u32 H0 := by simp [nums, H0]
theorem tab_K : ((nums .u32 (H0 ++ K0)).drop 8).take 64 = nums .u32 K0 := by kernel_rfl
set_option maxRecDepth 100000 in
set_option maxHeartbeats 4000000 in
theorem rsum_walk (a : Option Addr) (n cap : Nat) (ls : List BS) (w : World) (h : Parts w a n cap ls) (hlen : (flat ls).length ≤ 1048576) :
    Calls Tryd.prog 32 #[tabV, .slice a n cap] w (SumRes (flat ls) w) := by
  have HI := hid h
  have HL := hid h.2.1
  have hnb := Nat.le_trans h.1.2.1 h.1.2.2.1
  unfold maxLen at hnb
  obtain ⟨tc, htc⟩ : ∃ tc : Array Value, tc = (nums .u32 (H0 ++ K0)).toArray := ⟨_, rfl⟩
  have hT : tabV = .agg tc := by rw [htc]; rfl
  rw [hT]
  have htl := hid (show tc.toList = nums .u32 (H0 ++ K0) by rw [htc])
  clear hT htc
  have A2 := hid (alloc2 w (.cells tc 34) (.cells #[.int .u8 0, .int .u8 0, .int .u8 0, .int .u8 0, .int .u8 0, .int .u8 0, .int .u8 0, .int .u8 0, .int .u8 0, .int .u8 0, .int .u8 0, .int .u8 0, .int .u8 0, .int .u8 0, .int .u8 0, .int .u8 0, .int .u8 0, .int .u8 0, .int .u8 0, .int .u8 0, .int .u8 0, .int .u8 0, .int .u8 0, .int .u8 0, .int .u8 0, .int .u8 0, .int .u8 0, .int .u8 0, .int .u8 0, .int .u8 0, .int .u8 0, .int .u8 0] 27))
  clear h
  go_enter Tryd.func32, Tryd.ntmps32
  go_upto_region 1 with (fail)
  generalize ((w.alloc (.cells tc 34)).alloc (.cells #[.int .u8 0, .int .u8 0, .int .u8 0, .int .u8 0, .int .u8 0, .int .u8 0, .int .u8 0, .int .u8 0, .int .u8 0, .int .u8 0, .int .u8 0, .int .u8 0, .int .u8 0, .int .u8 0, .int .u8 0, .int .u8 0, .int .u8 0, .int .u8 0, .int .u8 0, .int .u8 0, .int .u8 0, .int .u8 0, .int .u8 0, .int .u8 0, .int .u8 0, .int .u8 0, .int .u8 0, .int .u8 0, .int .u8 0, .int .u8 0, .int .u8 0, .int .u8 0] 27)) = W2 at *
  have O1 := hid (World.ownsRow_made (base := W2.heap.size) (e := 5) (size := 1) W2 #[] 0 (Nat.le_refl _) (by simp) (by simp))
  have B1 := hid ((Below.refl _ W2).alloc (Nat.le_refl _) (.cells #[] 5))
  go_wp2
  go_loopw [5, 11] (fun x5 x11 wr => ∃ (i : Nat) (v : Value), i ≤ n ∧ x11 = .int .i64 i ∧ v = x5 ∧ wr.ownsRow W2.heap.size 5 1 v (flat (ls.take i)).length (nums .u8 (flat (ls.take i))) ∧ Below W2.heap.size W2 wr) (fun _ x11 _ => n - (intOf x11).toNat)
  case atStart => exact ⟨0, _, by omega, rfl, rfl, O1.out, B1.out⟩
  case round =>
    obtain ⟨i, v, hi, rfl, rfl, ho, hb⟩ := hrel
    clear O1 B1
    have HO := hid ho
    have HB := hid hb
    have BEL := hid (A2.out.2.2.2.trans (hb.mono (by have := A2.out.2.2.1; omega)))
    clear ho hb
    have hfl := flat_take_le ls i
    by_cases hlt : i < n
    · obtain ⟨l, hl⟩ := bget_some HL.out hlt
      obtain ⟨b, off, rfl, c1, gd⟩ := (HI.out.below BEL.out).cells hl
      have HGD := hid gd
      have HE := hid (flat_take_succ hl)
      have hle := flat_take_le ls (i + 1)
      rw [HE.out, List.length_append] at hle
      have hBs := HB.out.size
      clear gd hl
      go_wp2_with (at_builtin; refine wpList_cat rfl _ _ 23 rfl tyBs W2.heap.size HO.out rfl rfl HGD.out.1 (nums_oneCell _ _) ?c1 ?c2 ?c3 ?_)
      case c1 => omega
      case c2 => unfold maxLen; omega
      case c3 => exact hBs
      intro v6 w6 own6 b6 hs6 _
      rw [nums_append, ← List.length_append, ← HE.out] at own6
      have O6 := hid own6
      have B6 := hid (HB.out.trans b6)
      clear own6 b6 hs6 c1 hle
      go_wp2
      go_roundw
      case rel => exact ⟨i + 1, v6, by omega, by go_num, rfl, O6.out, B6.out⟩
      case measure => simp [intOf]; omega
    · have hge : n ≤ i := by omega
      have et : ls.take i = ls := List.take_of_length_le (by rw [HL.out]; exact hge)
      rw [et] at HO
      obtain ⟨av, cv, rfl, rv⟩ := Rd.of_owns HO.out
      have h0 := (HB.out.block w.heap.size (by have := A2.out.2.2.1; omega)).trans A2.out.1
      have h1 := hid ((HB.out.block (w.heap.size + 1) (by have := A2.out.2.2.1; omega)).trans A2.out.2.1)
      have r0 := row_range' h0 htl.out
      have rS := hid (tab_S ▸ rangeAt_cut r0 0 8)
      have rK := hid (tab_K ▸ rangeAt_cut r0 8 64)
      have hsl := hid (show Sl .u8 wr av (flat ls).length cv (flat ls) from rv)
      clear et h0 r0 rv A2
      have iS : (Tryd.prog.info? 31).map (·.size) = some (nums .u32 H0).length := by rw [nums_length, H0_len]; kernel_rfl
      have iK : (Tryd.prog.info? 32).map (·.size) = some (nums .u32 K0).length := by rw [nums_length, K0_len]; kernel_rfl
      go_wp2_with (first | (refine wpList_load_mid rfl _ _ rfl w.heap.size 0 rfl (nums .u32 H0) _ rS.out Tryd.underlying31 rfl iS ?_) | (refine wpList_load_mid rfl _ _ rfl w.heap.size 8 rfl (nums .u32 K0) _ rK.out Tryd.underlying32 rfl iK ?_))
      refine (rhash_walk av _ cv (flat ls) H0 K0 (flat_lt fun l hl => (HI.out.2.2 l hl).2.1) hlen H0_len H0_lt K0_len K0_lt _ hsl.out).mono ?_
      rintro e wA ⟨rfl, bA⟩
      have h0' := hid (heap_keep' h1.out bA)
      have B2 := hid (bstep BEL.out bA)
      have hiH : (Tryd.prog.info? 27).map (·.size) = some (nums .u8 (sha (flat ls))).toArray.size := by rw [List.size_toArray, nums_length, sha_len]; exact infoO
      have h32 : (#[Value.int .u8 0, Value.int .u8 0, Value.int .u8 0, Value.int .u8 0, Value.int .u8 0, Value.int .u8 0, Value.int .u8 0, Value.int .u8 0, Value.int .u8 0, Value.int .u8 0, Value.int .u8 0, Value.int .u8 0, Value.int .u8 0, Value.int .u8 0, Value.int .u8 0, Value.int .u8 0, Value.int .u8 0, Value.int .u8 0, Value.int .u8 0, Value.int .u8 0, Value.int .u8 0, Value.int .u8 0, Value.int .u8 0, Value.int .u8 0, Value.int .u8 0, Value.int .u8 0, Value.int .u8 0, Value.int .u8 0, Value.int .u8 0, Value.int .u8 0, Value.int .u8 0, Value.int .u8 0] : Array Value).size = (nums .u8 (sha (flat ls))).toArray.size := by show 32 = _; rw [List.size_toArray, nums_length, sha_len]
      have h1c : (nums .u8 (sha (flat ls))).toArray.all (·.oneCell') = true := by simp [nums, Value.oneCell']
      clear bA h1
      have eS : hashS K0 H0 (flat ls) = sha (flat ls) := rfl
      rw [eS]
      unfold hv
      clear eS
      generalize hcs : (nums .u8 (sha (flat ls))).toArray = cs at *
      have HCS := hid hcs
      clear hcs
      go_wp2_with (refine wpList_store_row rfl _ _ _ rfl (w.heap.size + 1) cs rfl rfl _ _ h0'.out hiH h32 h1c ?_)
      (try simp only [Exit.inBlock, Exit.then])
      refine bodyPost_ret (results_cell_row rfl _ _ (w.heap.size + 1) _ cs _ _ rfl (setRow_heap wA (w.heap.size + 1) _ cs _ _ h0'.out) Tryd.underlying27 rfl hiH) rfl ?_
      exact ⟨by rw [hv, HCS.out], below_setRow B2.out (Nat.le_succ _) _⟩
end Go.Proofs.YtllckpcggmfmkaaDoor

/- The reference's Point, Read32, GetPoint. -/
import Derived.Test.YtgaidleepjkldaaPointG
namespace Go.Proofs.Ytgaidleepjkldaa
open Go.RowKit

set_option maxRecDepth 100000 in
set_option maxHeartbeats 1000000 in
theorem rpoint_walk (tx : List Nat) (o : Nat) (ht : tx.length = 32) (ho : o < 256) (w : World) :
    Calls Try.prog 11 #[.agg (nums .u8 tx).toArray, .int .i64 (o : Int)] w (PutRes w (ptb tx o)) := by
  have bb := (Below.refl w.heap.size w).alloc (Nat.le_refl _) (.cells (nums .u8 tx).toArray 22)
  have HS := hid (show Rd (w.alloc (.cells (nums .u8 tx).toArray 22)) 1 (some ⟨w.heap.size, 0, none⟩) 32 32 (nums .u8 tx) from rd_newN w (nums .u8 tx).toArray _ (by simp [ht]) (by decide))
  have HB := hid bb
  have ew : IntKind.u8.wrap (o : Int) = (o : Int) := u8w ho
  have es : (w.alloc (.cells (nums .u8 tx).toArray 22)).heap.size = w.heap.size + 1 := by simp
  have o1 := (World.ownsRow_made (base := (w.alloc (.cells (nums .u8 tx).toArray 22)).heap.size) (e := 5) (size := 1) (w.alloc (.cells (nums .u8 tx).toArray 22)) #[] 0 (Nat.le_refl _) (by simp) (by simp))
  rw [es] at o1
  have O1 := hid o1
  have b1 := (Below.refl (w.alloc (.cells (nums .u8 tx).toArray 22)).heap.size (w.alloc (.cells (nums .u8 tx).toArray 22))).alloc (Nat.le_refl _) (.cells #[] 5)
  have S1 := hid (HS.out.below b1)
  rw [es] at b1
  have ES := hid es
  clear bb HS o1 es
  go_enter Try.func11, Try.ntmps11
  go_wp2_with (at_builtin; refine wpList_cat rfl _ _ 26 rfl tyBs (w.heap.size + 1) O1.out rfl rfl S1.out (nums_oneCell _ _) (by decide) (by decide) ?c3 ?_)
  case c3 => simp
  intro v2 w2 hown2 hb2 hs2 hne
  have b2 := b1.trans hb2
  have b3 := b2.alloc (by have := b2.size; have := ES.out; omega) (.cells #[Value.int .u8 0, Value.int .u8 0, Value.int .u8 0, Value.int .u8 (o : Int)] 5)
  have O2 := hid (own_below hown2 ((Below.refl w2.heap.size w2).alloc (Nat.le_refl _) (.cells #[Value.int .u8 0, Value.int .u8 0, Value.int .u8 0, Value.int .u8 (o : Int)] 5)))
  have R2 := hid (rd_newN w2 #[Value.int .u8 0, Value.int .u8 0, Value.int .u8 0, Value.int .u8 (o : Int)] 5 (n := 4) rfl (by decide))
  have SZ := hid (show w.heap.size + 1 ≤ _ from by rw [← ES.out]; exact b3.size)
  have B3 := hid b3
  clear hown2 hb2 hs2 hne b2 b3 b1 O1 S1
  go_wp2_with (at_builtin; refine wpList_cat rfl _ _ 26 rfl tyBs (w.heap.size + 1) O2.out rfl rfl R2.out (fun u hu => List.all_eq_true.1 (rfl : (List.all _ Value.oneCell') = true) u hu) (by decide) (by decide) SZ.out ?_)
  intro v3 w3 o3 hb3 hs3 hne3
  have HF := hid (put_fin ht o3)
  have HBX := hid (HB.out.trans ((B3.out.trans hb3).mono (Nat.le_succ _)))
  clear o3 hb3 hs3 hne3 ht ho
  go_wp2
  go_ret
  exact ⟨_, rfl, HF.out.1, own_mono HF.out.2 (Nat.le_succ _), HBX.out⟩
end Go.Proofs.Ytgaidleepjkldaa

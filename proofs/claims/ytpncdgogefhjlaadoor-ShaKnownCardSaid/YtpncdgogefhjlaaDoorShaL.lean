/- The walks of head and of the statement ShaBytes. -/
import Derived.Test.YtpncdgogefhjlaaDoorSum1
import Derived.Lib.SlBytesConst
namespace Go.Proofs.YtpncdgogefhjlaaDoor
open Go.RowKit

theorem abc_facts : (sha [97, 98, 99]).getD 0 0 = 186 ∧ (sha [97, 98, 99]).getD 1 0 = 120 ∧ (sha [97, 98, 99]).getD 2 0 = 22 ∧ (sha [97, 98, 99]).getD 3 0 = 191 := by
  have h := sha_abc
  generalize sha [97, 98, 99] = L at *
  match L, h with
  | a :: b :: c :: d :: r, h =>
    simp only [List.take_succ_cons, List.take_zero, List.cons.injEq, and_true] at h
    obtain ⟨rfl, rfl, rfl, rfl⟩ := h
    exact ⟨rfl, rfl, rfl, rfl⟩
  | [], h => simp at h
  | [_], h => simp at h
  | [_, _], h => simp at h
  | [_, _, _], h => simp at h
theorem head_walk (w : World) (ht : Tabs w) : Calls Tryd.prog 8 #[] w fun e w' => e = .returned (.bool true) ∧ Below w.heap.size w w' := by
  have cv := Go.Lib.run_convert_bytes_const (P := Tryd.prog) w 22 5 #[.int .u8 97, .int .u8 98, .int .u8 99] 3 3 Tryd.underlying22 Tryd.underlying5
  have hC : (#[Value.int .u8 97, .int .u8 98, .int .u8 99] : Array Value).size = 3 := rfl
  rw [hC] at cv
  have S1 : Sl .u8 (w.alloc (.cells #[.int .u8 97, .int .u8 98, .int .u8 99] 5 (3, 4))) (some ⟨w.heap.size, 0, none⟩) 3 3 [97, 98, 99] := by
    refine ⟨rfl, by decide, by decide, (fun e => by cases e), w.heap.size, 0, fun _ => rfl, fun j u hu => ?_⟩
    rw [Nat.zero_add, World.cell?_alloc_mark]
    simpa [nums] using hu
  have B0 := (Below.refl w.heap.size w).alloc (Nat.le_refl _) (.cells #[.int .u8 97, .int .u8 98, .int .u8 99] 5 (3, 4))
  have hsz : (w.alloc (.cells #[.int .u8 97, .int .u8 98, .int .u8 99] 5 (3, 4))).heap.size = w.heap.size + 1 := by simp
  generalize w.alloc (.cells #[.int .u8 97, .int .u8 98, .int .u8 99] 5 (3, 4)) = W at *
  have B1 := hid (B0.alloc (by omega) (.cells #[.slice (some ⟨w.heap.size, 0, none⟩) 3 3] 22))
  have bb := (Below.refl W.heap.size W).alloc (Nat.le_refl _) (.cells #[.slice (some ⟨w.heap.size, 0, none⟩) 3 3] 22)
  have C1 := hid (sum1_walk W.heap.size (some ⟨w.heap.size, 0, none⟩) 3 3 [97, 98, 99] (W.alloc (.cells #[.slice (some ⟨w.heap.size, 0, none⟩) 3 3] 22)) (by rw [cell_of_row _ W.heap.size 0 _ _ (0, 0) (heap_alloc_new W _)]; rfl) (S1.below bb) (by simp) (by decide) (ht.below B1.out))
  rw [hsz] at C1
  obtain ⟨d0, d1, d2, d3⟩ := abc_facts
  have DD := hid (And.intro d0 (And.intro d1 (And.intro d2 d3)))
  clear hC S1 B0 ht bb d0 d1 d2 d3
  go_enter Tryd.func8, Tryd.ntmps8
  go_wp2_with fail
  refine C1.out.mono ?_
  rintro e w1 ⟨rfl, b1⟩
  have B2 := hid (B1.out.trans (b1.mono B1.out.size))
  have hls := sha_len [97, 98, 99]
  have hlt := hid (sha_lt [97, 98, 99])
  generalize sha [97, 98, 99] = zs at *
  have h0 := hid (heap_alloc_new w1 (.cells (List.replicate 32 (Value.int .u8 0)).toArray 26))
  clear cv C1 B1 b1 hsz
  go_wp2_with (refine wpList_storeH rfl _ _ rfl w1.heap.size rfl rfl hls h0.out rfl ?_)
  intro w2 hh2 hf2
  have B3 := hid (B2.out.trans ((((Below.refl w1.heap.size w1).alloc (Nat.le_refl _) (.cells (List.replicate 32 (Value.int .u8 0)).toArray 26)).mono B2.out.size).trans (hf2.below B2.out.size (by have := B2.out.size; simp; omega))))
  have cc := fun j (hj : j < 32) => (cell_of_row w2 w1.heap.size j _ _ (0, 0) hh2).trans (by rw [List.getElem?_toArray, nums_get .u8 (by omega)] : _ = some (Value.int .u8 ((zs.getD j 0 : Nat) : Int)))
  have c0 := cc 0 (by decide)
  have c1 := cc 1 (by decide)
  have c2 := cc 2 (by decide)
  have c3 := cc 3 (by decide)
  rw [DD.out.1] at c0
  rw [DD.out.2.1] at c1
  rw [DD.out.2.2.1] at c2
  rw [DD.out.2.2.2] at c3
  clear cc hh2 hf2 h0 hls
  go_wp2
  go_ret
  exact ⟨rfl, B3.out⟩
end Go.Proofs.YtpncdgogefhjlaaDoor

/- The walks of encode (the document's example) and of the statement TlvForm. -/
import Derived.Test.YtfcnpmkpdikgeaaDec
import Derived.Test.YtfcnpmkpdikgeaaFormP
import Derived.Lib.SlBytesConst
namespace Go.Proofs.Ytfcnpmkpdikgeaa
open Go.RowKit

theorem recs_lit' {w : World} {us : Array Value} {e : TypeId} {n : Nat} (ls : List LR) (hn : ls.length = n) (hu : us.toList = ls.flatMap LR.cells) (hz : us.size = n * 2) (hm : n ≤ maxLen) (hg : ∀ l ∈ ls, l.good w) :
    Recs (w.alloc (.cells us e)) (some ⟨w.heap.size, 0, none⟩) n n ls := by
  obtain ⟨a', cap', he, hr⟩ := Rd.of_owns (own_new w us e (B := w.heap.size) hz (Nat.le_refl _) hm)
  simp only [Value.slice.injEq, true_and] at he
  obtain ⟨rfl, rfl⟩ := he
  rw [hu] at hr
  exact ⟨hr, hn, fun l hl => (hg l hl).below ((Below.refl _ _).alloc (Nat.le_refl _) _)⟩
theorem ex_enc : encE [(1, [97, 98])] = 0 ∧ encAll [(1, [97, 98])] = [1, 2, 97, 98] := by decide
theorem encodefn_walk (w : World) : Calls Try.prog 20 #[] w (TrueB w) := by
  have cv := Go.Lib.run_convert_bytes_const (P := Try.prog) w 25 5 #[.int .u8 97, .int .u8 98] 2 2 Try.underlying25 Try.underlying5
  have S1 : Sl .u8 (w.alloc (.cells #[.int .u8 97, .int .u8 98] 5 (2, 3))) (some ⟨w.heap.size, 0, none⟩) 2 2 [97, 98] := by
    refine ⟨rfl, by decide, by decide, (fun e => by cases e), w.heap.size, 0, fun _ => rfl, fun j u hu => ?_⟩
    rw [Nat.zero_add, World.cell?_alloc_mark]
    simpa [nums] using hu
  have B0 := (Below.refl w.heap.size w).alloc (Nat.le_refl _) (.cells #[.int .u8 97, .int .u8 98] 5 (2, 3))
  have hsz : (w.alloc (.cells #[.int .u8 97, .int .u8 98] 5 (2, 3))).heap.size = w.heap.size + 1 := by simp
  have hC : (#[Value.int .u8 97, .int .u8 98] : Array Value).size = 2 := rfl
  rw [hC] at cv
  clear hC
  generalize hW : w.alloc (.cells #[.int .u8 97, .int .u8 98] 5 (2, 3)) = W at *
  clear hW
  have R1 := hid (recs_lit' (w := W) (us := #[.int .u64 (1 : Nat), .slice (some ⟨w.heap.size, 0, none⟩) 2 2]) (e := 39) [⟨1, some ⟨w.heap.size, 0, none⟩, 2, [97, 98]⟩] (n := 1) rfl rfl rfl (by decide) (fun l hl => by simp at hl; subst hl; exact ⟨show 1 < 18446744073709551616 by decide, S1, by simp, show 2 ≤ 140737488351232 by decide⟩))
  have B1 := hid (B0.alloc (by omega) (.cells #[.int .u64 (1 : Nat), .slice (some ⟨w.heap.size, 0, none⟩) 2 2] 39))
  have C1 := enc_walk _ _ _ _ _ R1.out
  rw [hsz] at C1
  replace C1 := hid C1
  clear B0
  have ex := hid ex_enc
  clear S1
  go_enter Try.func20, Try.ntmps20
  go_wp2_with fail
  refine C1.out.mono ?_
  rintro e w1 ⟨v, rfl, sv, b1⟩
  rw [show encE (List.map LR.pr [⟨1, some ⟨w.heap.size, 0, none⟩, 2, [97, 98]⟩]) = 0 from ex.out.1] at *
  rw [if_pos rfl, show encAll (List.map LR.pr [⟨1, some ⟨w.heap.size, 0, none⟩, 2, [97, 98]⟩]) = [1, 2, 97, 98] from ex.out.2] at sv
  obtain ⟨a1, c1, rfl, s1⟩ := sv
  have S2 := hid (sl_lit .u8 w1 #[.int .u8 1, .int .u8 2, .int .u8 97, .int .u8 98] 5 [1, 2, 97, 98] rfl rfl (by decide))
  have bb := (Below.refl w1.heap.size w1).alloc (Nat.le_refl _) (.cells #[.int .u8 1, .int .u8 2, .int .u8 97, .int .u8 98] 5)
  have s1' := hid (s1.below bb)
  have B2 := bstep (B1.out.trans (b1.mono B1.out.size)) bb
  clear s1 b1 bb B1 R1 C1 ex
  go_wp2_with fail
  refine (same_self _ _ _ _ _ _ [1, 2, 97, 98] (by simp) _ s1'.out S2.out).mono ?_
  rintro e w2 ⟨rfl, rfl⟩
  go_wp2
  go_ret
  exact ⟨rfl, B2⟩
end Go.Proofs.Ytfcnpmkpdikgeaa

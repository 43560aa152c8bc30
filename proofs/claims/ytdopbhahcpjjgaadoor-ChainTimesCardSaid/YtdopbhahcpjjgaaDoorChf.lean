/- The chain's four: a number's four bytes behind a slice. -/
import Derived.Test.YtdopbhahcpjjgaaDoorCht
import Derived.Test.YtdopbhahcpjjgaaDoorCatS
namespace Go.Proofs.YtdopbhahcpjjgaaDoor
open Go.RowKit

theorem tyBy : SliceTy Tryd.prog 73 5 1 1 (.int .u8 0) := .mk' Tryd.underlying73 (by kernel_rfl) (by decide) (by decide)
def f4 (x : Int) : List Nat := [(x / 16777216 % 256).toNat, (x / 65536 % 256).toNat, (x / 256 % 256).toNat, (x % 256).toNat]
theorem f4_len (x : Int) : (f4 x).length = 4 := rfl
theorem f4_lt (x : Int) : ∀ d ∈ f4 x, d < 256 := by
  intro d hd
  simp only [f4, List.mem_cons, List.not_mem_nil, or_false] at hd
  rcases hd with rfl | rfl | rfl | rfl <;> omega
/-- a row of one's own, longer by some bytes -/
def MoreB (w : World) (B : Nat) (v : Value) (n : Nat) (bs ds : List Nat) (e : Ending) (w' : World) : Prop := ∃ v', e = .returned v' ∧ w'.ownsRow B 5 1 v' (n + ds.length) (nums .u8 (bs ++ ds)) ∧ Keep (fun i => v.ownBlock = some i) w w' ∧ (v'.ownBlock = v.ownBlock ∨ ∀ g, v'.ownBlock = some g → w.heap.size ≤ g)
set_option maxRecDepth 100000 in
set_option maxHeartbeats 4000000 in
theorem cfour_walk (B : Nat) (v : Value) (n : Nat) (bs : List Nat) (x : Int) (w : World) (ho : w.ownsRow B 5 1 v n (nums .u8 bs)) (hB : B ≤ w.heap.size) (hn : n < 4294967296) :
    Calls Tryd.prog 28 #[v, .int .i64 x] w (MoreB w B v n bs (f4 x)) := by
  have OW := hid ho
  have HB := hid hB
  have HN := hid hn
  obtain ⟨x0, hx0⟩ : ∃ x0, x0 = (x / 16777216 % 256).toNat := ⟨_, rfl⟩
  obtain ⟨x1, hx1⟩ : ∃ x1, x1 = (x / 65536 % 256).toNat := ⟨_, rfl⟩
  obtain ⟨x2, hx2⟩ : ∃ x2, x2 = (x / 256 % 256).toNat := ⟨_, rfl⟩
  obtain ⟨x3, hx3⟩ : ∃ x3, x3 = (x % 256).toNat := ⟨_, rfl⟩
  have e0 : x / 16777216 % 256 = (x0 : Int) := by omega
  have e1 : x / 65536 % 256 = (x1 : Int) := by omega
  have e2 : x / 256 % 256 = (x2 : Int) := by omega
  have e3 : x % 256 = (x3 : Int) := by omega
  have F4 := hid (show f4 x = [x0, x1, x2, x3] by rw [hx0, hx1, hx2, hx3]; rfl)
  have ba := hid ((Below.refl w.heap.size w).alloc (Nat.le_refl _) (.cells #[.int .u8 (x0 : Int), .int .u8 (x1 : Int), .int .u8 (x2 : Int), .int .u8 (x3 : Int)] 5))
  have SH := hid (show Rd (w.alloc (.cells #[.int .u8 (x0 : Int), .int .u8 (x1 : Int), .int .u8 (x2 : Int), .int .u8 (x3 : Int)] 5)) 1 (some ⟨w.heap.size, 0, none⟩) 4 4 (nums .u8 [x0, x1, x2, x3]) from
    ⟨rfl, Nat.le_refl _, by decide, (fun e => nomatch e), w.heap.size, 0, fun _ => rfl, fun j u hu => by have := gen_cell (j := j) (row_range (t := 5) (L := nums .u8 [x0, x1, x2, x3]) (heap_alloc_new w _)) hu; rw [Nat.zero_add]; exact this⟩)
  have O2 := hid (ownKB ho ba.out)
  clear ho hB hn hx0 hx1 hx2 hx3
  go_enter Tryd.func28, Tryd.ntmps28
  go_wp2_with (at_builtin; refine wpList_when (by rfl) (fun K hK => wp_cat _ _ 73 rfl tyBy B O2.out rfl rfl SH.out (nums_oneCell _ _) (by have := HN.out; omega) (by have := HN.out; unfold maxLen; omega) (Nat.le_trans HB.out ba.out.size) (fun v5 w5 own5 g5 nb5 => hK _ _ ?_)); clear hK K; have O5 := hid own5; have K5 := hid (Keep.grown g5 (S := fun i => v.ownBlock = some i) (fun _ h => h.symm ▸ rfl)); have N5 := hid nb5; clear own5 g5 nb5)
  go_ret
  refine ⟨v5, rfl, ?_, (Keep.of ba.out).trans K5.out, ?_⟩
  · have o := O5.out
    rw [nums_append] at o
    rw [F4.out]
    exact o
  · rcases N5.out with h | h
    · exact .inl h
    · refine .inr (fun g hg => ?_)
      rw [h] at hg
      cases hg
      exact ba.out.size
end Go.Proofs.YtdopbhahcpjjgaaDoor

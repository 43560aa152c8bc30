/- math/bits.TrailingZeros64; in how many noughts a place ends. -/
import Derived.Test.YtnfklnbdebcpiaaDoorMem
import Derived.Laws.Bits64b
import Derived.Lib.TrailingZeros
namespace Go.Proofs.YtnfklnbdebcpiaaDoor
open Go.RowKit

def Tab64 (w : World) : Prop := ∀ j, j < Lib.deBruijn64tab.length → w.cell? ⟨0, j, none⟩ = some (.int .u8 ((Lib.deBruijn64tab.getD j 0 : Nat) : Int))
theorem Tab64.below {w w' : World} (h : Tab64 w) (hb : Below w.heap.size w w') : Tab64 w' := fun j hj => by
  rw [hb.cell (World.block_lt_of_cell? w _ (h j hj))]; exact h j hj
theorem Tab64.lt {w : World} (h : Tab64 w) : 0 < w.heap.size := World.block_lt_of_cell? w _ (h 0 (by decide))
theorem Tab64.far {w w' : World} {H : Nat} (h : Tab64 w) (hf : Far H w w') (hne : H ≠ 0) : Tab64 w' := fun j hj => by
  rw [World.cell?_of_block (hf.block _ (World.block_lt_of_cell? w _ (h j hj)) (by simp; omega))]; exact h j hj
theorem tz_core (x k idx : Nat) (w : World) (hx0 : ((x : Int) == 0) = false)
    (key : IntKind.u64.wrap (bits BinOp.and IntKind.u64 (x : Int) (IntKind.u64.wrap (-(x : Int))) * 285870213051353865) / 288230376151711744 = (idx : Int))
    (hi : idx < 64) (hk : k < 64) (hcell : w.cell? ⟨0, idx, none⟩ = some (.int .u8 (k : Int))) :
    Calls Tryd.prog 24 #[.int .u64 (x : Int)] w fun e w' => e = .returned (.int .i64 (k : Int)) ∧ w = w' := by
  have hi' : (idx : Int) < 64 := by omega
  go_enter Tryd.func24, Tryd.ntmps24
  go_wp2_with (simp only [key])
  go_ret
  exact ⟨rfl, rfl⟩
theorem tz_key (x a : Nat) (hx : x < 18446744073709551616) (hx0 : x ≠ 0) (hlow : x &&& (18446744073709551616 - x) = a) :
    IntKind.u64.wrap (bits BinOp.and IntKind.u64 (x : Int) (IntKind.u64.wrap (-(x : Int))) * 285870213051353865) / 288230376151711744 = ((a * 285870213051353865 % 18446744073709551616 / 288230376151711744 : Nat) : Int) := by
  have e1 : IntKind.u64.wrap (-(x : Int)) = ((18446744073709551616 - x : Nat) : Int) := by rw [IntKind.wrap_u64]; omega
  rw [e1, bits_and_u64_nat x _ hx (by omega), hlow, IntKind.wrap_u64]
  omega
theorem tz_walk (x : Nat) (hx : x < 18446744073709551616) (w : World) (hT : Tab64 w) : Calls Tryd.prog 24 #[.int .u64 (x : Int)] w fun e w' => e = .returned (.int .i64 (Lib.ctz 64 x : Int)) ∧ w = w' := by
  by_cases hx0 : x = 0
  · subst hx0
    go_enter Tryd.func24, Tryd.ntmps24
    go_wp2
    go_ret
    exact ⟨rfl, rfl⟩
  · obtain ⟨hlow, hk⟩ := Lib.lowest_bit 64 x hx0 hx
    obtain ⟨hi, htab⟩ := Lib.deBruijn64_at _ hk
    have hcell := hT _ hi
    rw [htab] at hcell
    exact tz_core x _ _ w (by simp; omega) (tz_key x _ hx hx0 hlow) hi hk hcell
/-- in how many noughts x ends, f at most -/
def nzF : Nat → Nat → Nat
  | 0, _ => 0
  | f + 1, x => if x % 2 = 1 then 0 else 1 + nzF f (x / 2)
theorem nzF_le : ∀ (f x : Nat), nzF f x ≤ f
  | 0, _ => Nat.le_refl _
  | f + 1, x => by
    rw [nzF]
    split
    · omega
    · have := nzF_le f (x / 2); omega
theorem nzF_zero : ∀ f, nzF f 0 = f
  | 0 => rfl
  | f + 1 => by rw [nzF, if_neg (by decide), nzF_zero f]; omega
theorem nzF_ctz : ∀ (f g x : Nat), 0 < x → x < 2 ^ f → f ≤ g → Lib.ctzFrom g x = nzF f x
  | 0, _, x, h0, h, _ => by simp at h; omega
  | f + 1, g, x, h0, h, hg => by
    obtain ⟨g, rfl⟩ : ∃ g', g = g' + 1 := ⟨g - 1, by omega⟩
    rw [Lib.ctzFrom, nzF]
    by_cases h1 : x % 2 = 1
    · rw [if_pos h1, if_pos h1]
    · rw [if_neg h1, if_neg h1, nzF_ctz f g (x / 2) (by omega) (by rw [Nat.pow_succ] at h; omega) (by omega)]
def nz (p : Nat) : Nat := nzF 48 p
theorem nz_le (p : Nat) : nz p ≤ 48 := nzF_le _ _
theorem nz_min {p : Nat} (h : p < 281474976710656) : min (Lib.ctz 64 p) 48 = nz p := by
  unfold Lib.ctz nz
  split
  · subst_vars; rw [nzF_zero]; rfl
  · rw [nzF_ctz 48 64 p (by omega) (by simpa using h) (by omega)]
    exact Nat.min_eq_left (nzF_le _ _)
end Go.Proofs.YtnfklnbdebcpiaaDoor

/- Contracts of math/bits: Len64, LeadingZeros64, Div64. -/
import Derived.Test.YthccjefhlmngbaaDoorBits
import Derived.Test.YthccjefhlmngbaaDoorMem
import Derived.Test.YthccjefhlmngbaaDoorDivP
import Derived.Lib.Strings
import Derived.Lib.Slices
import Derived.Lib.Small
import Derived.Lib.Walk
import Derived.Lib.BitFns
namespace Go.Proofs.YthccjefhlmngbaaDoor
open Go.RowKit

theorem idx8 (n : Nat) (h : n < Lib.len8tab.size) : (Lib.len8tab[n]'h).toNat = Lib.bitLen n := by
  have h' : n < 256 := by rw [Lib.len8tab_size] at h; exact h
  have e := Lib.len8_eq ⟨n, h'⟩
  simp only [Lib.len8, Int.toNat_natCast] at e
  rw [ByteArray.getElem?_lt' _ _ h] at e
  simp only [Option.getD_some] at e
  omega
theorem bl8 (n : Nat) (h : n < 256) : Lib.bitLen n ≤ 8 := Lib.bitLen_le8 ⟨n, h⟩

theorem blen56 (x : Int) (h0 : 72057594037927936 ≤ x) (h1 : x ≤ 18446744073709551615) : wrap64 (56 + wrap64 ((Lib.bitLen (x / 4294967296 / 65536 / 256).toNat : Nat) : Int)) = ((Lib.bitLen x.toNat : Nat) : Int) := by
  obtain ⟨n, rfl⟩ := Int.eq_ofNat_of_zero_le (show 0 ≤ x by omega)
  have e : ((n : Int) / 4294967296 / 65536 / 256).toNat = n / 72057594037927936 := by omega
  have s := Lib.bitLen_shift56 n (by omega) (by omega)
  have l := bl8 (n / 72057594037927936) (by omega)
  rw [e, Int.toNat_natCast, s]
  generalize Lib.bitLen (n / 72057594037927936) = q at *
  rw [IntWalk.wrap64_in (q : Int) ⟨by omega, by omega⟩, IntWalk.wrap64_in _ ⟨by omega, by omega⟩]
  omega
theorem blen48 (x : Int) (h0 : 281474976710656 ≤ x) (h1 : x ≤ 72057594037927935) : wrap64 (48 + wrap64 ((Lib.bitLen (x / 4294967296 / 65536).toNat : Nat) : Int)) = ((Lib.bitLen x.toNat : Nat) : Int) := by
  obtain ⟨n, rfl⟩ := Int.eq_ofNat_of_zero_le (show 0 ≤ x by omega)
  have e : ((n : Int) / 4294967296 / 65536).toNat = n / 281474976710656 := by omega
  have s := Lib.bitLen_shift48 n (by omega) (by omega)
  have l := bl8 (n / 281474976710656) (by omega)
  rw [e, Int.toNat_natCast, s]
  generalize Lib.bitLen (n / 281474976710656) = q at *
  rw [IntWalk.wrap64_in (q : Int) ⟨by omega, by omega⟩, IntWalk.wrap64_in _ ⟨by omega, by omega⟩]
  omega
theorem blen40 (x : Int) (h0 : 1099511627776 ≤ x) (h1 : x ≤ 281474976710655) : wrap64 (40 + wrap64 ((Lib.bitLen (x / 4294967296 / 256).toNat : Nat) : Int)) = ((Lib.bitLen x.toNat : Nat) : Int) := by
  obtain ⟨n, rfl⟩ := Int.eq_ofNat_of_zero_le (show 0 ≤ x by omega)
  have e : ((n : Int) / 4294967296 / 256).toNat = n / 1099511627776 := by omega
  have s := Lib.bitLen_shift40 n (by omega) (by omega)
  have l := bl8 (n / 1099511627776) (by omega)
  rw [e, Int.toNat_natCast, s]
  generalize Lib.bitLen (n / 1099511627776) = q at *
  rw [IntWalk.wrap64_in (q : Int) ⟨by omega, by omega⟩, IntWalk.wrap64_in _ ⟨by omega, by omega⟩]
  omega
theorem blen32 (x : Int) (h0 : 4294967296 ≤ x) (h1 : x ≤ 1099511627775) : wrap64 (32 + wrap64 ((Lib.bitLen (x / 4294967296).toNat : Nat) : Int)) = ((Lib.bitLen x.toNat : Nat) : Int) := by
  obtain ⟨n, rfl⟩ := Int.eq_ofNat_of_zero_le (show 0 ≤ x by omega)
  have e : ((n : Int) / 4294967296).toNat = n / 4294967296 := by omega
  have s := Lib.bitLen_shift32 n (by omega) (by omega)
  have l := bl8 (n / 4294967296) (by omega)
  rw [e, Int.toNat_natCast, s]
  generalize Lib.bitLen (n / 4294967296) = q at *
  rw [IntWalk.wrap64_in (q : Int) ⟨by omega, by omega⟩, IntWalk.wrap64_in _ ⟨by omega, by omega⟩]
  omega
theorem blen24 (x : Int) (h0 : 16777216 ≤ x) (h1 : x ≤ 4294967295) : wrap64 (24 + wrap64 ((Lib.bitLen (x / 65536 / 256).toNat : Nat) : Int)) = ((Lib.bitLen x.toNat : Nat) : Int) := by
  obtain ⟨n, rfl⟩ := Int.eq_ofNat_of_zero_le (show 0 ≤ x by omega)
  have e : ((n : Int) / 65536 / 256).toNat = n / 16777216 := by omega
  have s := Lib.bitLen_shift24 n (by omega) (by omega)
  have l := bl8 (n / 16777216) (by omega)
  rw [e, Int.toNat_natCast, s]
  generalize Lib.bitLen (n / 16777216) = q at *
  rw [IntWalk.wrap64_in (q : Int) ⟨by omega, by omega⟩, IntWalk.wrap64_in _ ⟨by omega, by omega⟩]
  omega
theorem blen16 (x : Int) (h0 : 65536 ≤ x) (h1 : x ≤ 16777215) : wrap64 (16 + wrap64 ((Lib.bitLen (x / 65536).toNat : Nat) : Int)) = ((Lib.bitLen x.toNat : Nat) : Int) := by
  obtain ⟨n, rfl⟩ := Int.eq_ofNat_of_zero_le (show 0 ≤ x by omega)
  have e : ((n : Int) / 65536).toNat = n / 65536 := by omega
  have s := Lib.bitLen_shift16 n (by omega) (by omega)
  have l := bl8 (n / 65536) (by omega)
  rw [e, Int.toNat_natCast, s]
  generalize Lib.bitLen (n / 65536) = q at *
  rw [IntWalk.wrap64_in (q : Int) ⟨by omega, by omega⟩, IntWalk.wrap64_in _ ⟨by omega, by omega⟩]
  omega
theorem blen8 (x : Int) (h0 : 256 ≤ x) (h1 : x ≤ 65535) : wrap64 (8 + wrap64 ((Lib.bitLen (x / 256).toNat : Nat) : Int)) = ((Lib.bitLen x.toNat : Nat) : Int) := by
  obtain ⟨n, rfl⟩ := Int.eq_ofNat_of_zero_le (show 0 ≤ x by omega)
  have e : ((n : Int) / 256).toNat = n / 256 := by omega
  have s := Lib.bitLen_shift8 n (by omega) (by omega)
  have l := bl8 (n / 256) (by omega)
  rw [e, Int.toNat_natCast, s]
  generalize Lib.bitLen (n / 256) = q at *
  rw [IntWalk.wrap64_in (q : Int) ⟨by omega, by omega⟩, IntWalk.wrap64_in _ ⟨by omega, by omega⟩]
  omega
theorem blen0 (x : Int) (h0 : 0 ≤ x) (h1 : x ≤ 255) : wrap64 (wrap64 ((Lib.bitLen x.toNat : Nat) : Int)) = ((Lib.bitLen x.toNat : Nat) : Int) := by
  have l := bl8 x.toNat (by omega)
  generalize Lib.bitLen x.toNat = q at *
  rw [IntWalk.wrap64_in (q : Int) ⟨by omega, by omega⟩, IntWalk.wrap64_in _ ⟨by omega, by omega⟩]

theorem div_eqs {hi lo y s : Nat} (n4 : y * 2 ^ s < 18446744073709551616) (sh3 : hi * 2 ^ s < 18446744073709551616) (sh4 : lo / 2 ^ (64 - s) < 2 ^ s) :
    IntKind.u64.wrap ((y : Int) * 2 ^ s) = ((y * 2 ^ s : Nat) : Int) ∧
    (hi * 2 ^ s + lo / 2 ^ (64 - s) < 18446744073709551616 → bits .or .u64 (IntKind.u64.wrap ((hi : Int) * 2 ^ s)) ((lo : Int) / 2 ^ (64 - s)) = ((hi * 2 ^ s + lo / 2 ^ (64 - s) : Nat) : Int)) ∧
    IntKind.u64.wrap ((lo : Int) * 2 ^ s) = ((lo * 2 ^ s % 18446744073709551616 : Nat) : Int) := by
  have c : ∀ a b : Nat, ((a : Int) * 2 ^ b) = ((a * 2 ^ b : Nat) : Int) := fun a b => by rw [Int.natCast_mul, Int.natCast_pow]; rfl
  have d : ∀ a b : Nat, ((a : Int) / 2 ^ b) = ((a / 2 ^ b : Nat) : Int) := fun a b => by rw [Int.natCast_ediv, Int.natCast_pow]; rfl
  refine ⟨?_, fun hb => ?_, ?_⟩
  · rw [c, Mul64.wrapN _ n4]
  · rw [c, d, Mul64.wrapN _ sh3, bits_or_u64_nat _ _ sh3 (by omega), Dv.or_sum sh4]
  · rw [c, Mul64.wrapM]

def DRel (u w v1 v0 : Nat) (x0 y0 : Value) : Prop := ∃ q r : Nat, x0 = .int .u64 q ∧ y0 = .int .u64 r ∧ r < 4294967296 ∧ Dv.DvSt u w v1 v0 q r
theorem div_mid {u1 w1 v1 v0 q Y : Nat} (hY : Y = 4294967296 * v1 + v0) (H : Dv.Right u1 w1 v1 v0 q) (n4 : Y < 18446744073709551616) :
    ∃ r1 : Nat, IntKind.u64.wrap (IntKind.u64.wrap (IntKind.u64.wrap ((u1 : Int) * 4294967296) + (w1 : Int)) - IntKind.u64.wrap ((q : Int) * (Y : Int))) = (r1 : Int) ∧ r1 < Y ∧ 4294967296 * u1 + w1 = q * Y + r1 := by
  obtain ⟨h1, h2⟩ := H
  rw [← hY] at h1 h2
  obtain ⟨r1, hr1⟩ : ∃ r1, 4294967296 * u1 + w1 = q * Y + r1 := ⟨4294967296 * u1 + w1 - q * Y, by omega⟩
  exact ⟨r1, Dv.wrap3 u1 w1 q Y r1 hr1 (by omega), by omega, hr1⟩
theorem div_fin {y s Y u1 w1 w0 v1 v0 q1 q0 r1 M Q R : Nat} (hQ : Q = M / y) (hR : R = M % y) (hY : y * 2 ^ s = Y) (HN : 4294967296 * (4294967296 * u1 + w1) + w0 = M * 2 ^ s) (hYe : Y = 4294967296 * v1 + v0)
    (hE : 4294967296 * u1 + w1 = q1 * Y + r1) (H : Dv.Right r1 w0 v1 v0 q0) (hy : 0 < y) (n4 : Y < 18446744073709551616) :
    ∃ r3 : Nat, IntKind.u64.wrap (IntKind.u64.wrap (IntKind.u64.wrap ((r1 : Int) * 4294967296) + (w0 : Int)) - IntKind.u64.wrap ((q0 : Int) * (Y : Int))) = (r3 : Int) ∧ r3 < Y ∧
      (q1 : Int) * 4294967296 + (q0 : Int) = (Q : Int) ∧ (r3 : Int) / 2 ^ s = (R : Int) := by
  subst hQ hR
  obtain ⟨r3, e1, e2, e3⟩ := div_mid hYe H n4
  obtain ⟨h1, h2⟩ := H
  rw [← hYe] at h1 h2
  obtain ⟨f1, f2⟩ := Dv.both hY.symm HN hE h2 h1 hy
  refine ⟨r3, e1, e2, by rw [f1]; omega, ?_⟩
  rw [← f2, e3, Nat.add_sub_cancel_left, Int.natCast_ediv, Int.natCast_pow]; rfl

end Go.Proofs.YthccjefhlmngbaaDoor

/- Contracts of math/bits: Len64, LeadingZeros64, Div64. -/
import Derived.Test.YtibjkpejbihcpaaBits
import Derived.Test.YtibjkpejbihcpaaMem
import Derived.Test.YtibjkpejbihcpaaDivP
import Derived.Lib.Strings
import Derived.Lib.Slices
import Derived.Lib.Small
import Derived.Lib.Walk
import Derived.Lib.BitFns
namespace Go.Proofs.Ytibjkpejbihcpaa
open Go.RowKit

theorem idx8 (n : Nat) (h : n < Lib.len8tab.size) : (Lib.len8tab[n]'h).toNat = Lib.bitLen n := by
  have h' : n < 256 := by rw [Lib.len8tab_size] at h; exact h
  have e := Lib.len8_eq ⟨n, h'⟩
  simp only [Lib.len8, Int.toNat_natCast] at e
  rw [ByteArray.getElem?_lt' _ _ h] at e
  simp only [Option.getD_some] at e
  omega
theorem bl8 (n : Nat) (h : n < 256) : Lib.bitLen n ≤ 8 := Lib.bitLen_le8 ⟨n, h⟩

theorem blen56 (x : Int) (h0 : 72057594037927936 ≤ x) (h1 : x ≤ 18446744073709551615) : wrap64 (56 + wrap64 ((Lib.bitLen (x / 4294967296 / 65536 / 256).toNat : Nat) : Int)) = ((Lib.bitLen x.toNat : Nat) : Int) := by
  obtain ⟨n, rfl⟩ := Int.eq_ofNat_of_zero_le (show 0 ≤ x by omega)
  have e : ((n : Int) / 4294967296 / 65536 / 256).toNat = n / 72057594037927936 := by omega
  have s := Lib.bitLen_shift56 n (by omega) (by omega)
  have l := bl8 (n / 72057594037927936) (by omega)
  rw [e, Int.toNat_natCast, s]
  generalize Lib.bitLen (n / 72057594037927936) = q at *
  rw [IntWalk.wrap64_in (q : Int) ⟨by omega, by omega⟩, IntWalk.wrap64_in _ ⟨by omega, by omega⟩]
  omega
theorem blen48 (x : Int) (h0 : 281474976710656 ≤ x) (h1 : x ≤ 72057594037927935) : wrap64 (48 + wrap64 ((Lib.bitLen (x / 4294967296 / 65536).toNat : Nat) : Int)) = ((Lib.bitLen x.toNat : Nat) : Int) := by
  obtain ⟨n, rfl⟩ := Int.eq_ofNat_of_zero_le (show 0 ≤ x by omega)
  have e : ((n : Int) / 4294967296 / 65536).toNat = n / 281474976710656 := by omega
  have s := Lib.bitLen_shift48 n (by omega) (by omega)
  have l := bl8 (n / 281474976710656) (by omega)
  rw [e, Int.toNat_natCast, s]
  generalize Lib.bitLen (n / 281474976710656) = q at *
  rw [IntWalk.wrap64_in (q : Int) ⟨by omega, by omega⟩, IntWalk.wrap64_in _ ⟨by omega, by omega⟩]
  omega
theorem blen40 (x : Int) (h0 : 1099511627776 ≤ x) (h1 : x ≤ 281474976710655) : wrap64 (40 + wrap64 ((Lib.bitLen (x / 4294967296 / 256).toNat : Nat) : Int)) = ((Lib.bitLen x.toNat : Nat) : Int) := by
  obtain ⟨n, rfl⟩ := Int.eq_ofNat_of_zero_le (show 0 ≤ x by omega)
  have e : ((n : Int) / 4294967296 / 256).toNat = n / 1099511627776 := by omega
  have s := Lib.bitLen_shift40 n (by omega) (by omega)
  have l := bl8 (n / 1099511627776) (by omega)
  rw [e, Int.toNat_natCast, s]
  generalize Lib.bitLen (n / 1099511627776) = q at *
  rw [IntWalk.wrap64_in (q : Int) ⟨by omega, by omega⟩, IntWalk.wrap64_in _ ⟨by omega, by omega⟩]
  omega
theorem blen32 (x : Int) (h0 : 4294967296 ≤ x) (h1 : x ≤ 1099511627775) : wrap64 (32 + wrap64 ((Lib.bitLen (x / 4294967296).toNat : Nat) : Int)) = ((Lib.bitLen x.toNat : Nat) : Int) := by
  obtain ⟨n, rfl⟩ := Int.eq_ofNat_of_zero_le (show 0 ≤ x by omega)
  have e : ((n : Int) / 4294967296).toNat = n / 4294967296 := by omega
  have s := Lib.bitLen_shift32 n (by omega) (by omega)
  have l := bl8 (n / 4294967296) (by omega)
  rw [e, Int.toNat_natCast, s]
  generalize Lib.bitLen (n / 4294967296) = q at *
  rw [IntWalk.wrap64_in (q : Int) ⟨by omega, by omega⟩, IntWalk.wrap64_in _ ⟨by omega, by omega⟩]
  omega
theorem blen24 (x : Int) (h0 : 16777216 ≤ x) (h1 : x ≤ 4294967295) : wrap64 (24 + wrap64 ((Lib.bitLen (x / 65536 / 256).toNat : Nat) : Int)) = ((Lib.bitLen x.toNat : Nat) : Int) := by
  obtain ⟨n, rfl⟩ := Int.eq_ofNat_of_zero_le (show 0 ≤ x by omega)
  have e : ((n : Int) / 65536 / 256).toNat = n / 16777216 := by omega
  have s := Lib.bitLen_shift24 n (by omega) (by omega)
  have l := bl8 (n / 16777216) (by omega)
  rw [e, Int.toNat_natCast, s]
  generalize Lib.bitLen (n / 16777216) = q at *
  rw [IntWalk.wrap64_in (q : Int) ⟨by omega, by omega⟩, IntWalk.wrap64_in _ ⟨by omega, by omega⟩]
  omega
theorem blen16 (x : Int) (h0 : 65536 ≤ x) (h1 : x ≤ 16777215) : wrap64 (16 + wrap64 ((Lib.bitLen (x / 65536).toNat : Nat) : Int)) = ((Lib.bitLen x.toNat : Nat) : Int) := by
  obtain ⟨n, rfl⟩ := Int.eq_ofNat_of_zero_le (show 0 ≤ x by omega)
  have e : ((n : Int) / 65536).toNat = n / 65536 := by omega
  have s := Lib.bitLen_shift16 n (by omega) (by omega)
  have l := bl8 (n / 65536) (by omega)
  rw [e, Int.toNat_natCast, s]
  generalize Lib.bitLen (n / 65536) = q at *
  rw [IntWalk.wrap64_in (q : Int) ⟨by omega, by omega⟩, IntWalk.wrap64_in _ ⟨by omega, by omega⟩]
  omega
theorem blen8 (x : Int) (h0 : 256 ≤ x) (h1 : x ≤ 65535) : wrap64 (8 + wrap64 ((Lib.bitLen (x / 256).toNat : Nat) : Int)) = ((Lib.bitLen x.toNat : Nat) : Int) := by
  obtain ⟨n, rfl⟩ := Int.eq_ofNat_of_zero_le (show 0 ≤ x by omega)
  have e : ((n : Int) / 256).toNat = n / 256 := by omega
  have s := Lib.bitLen_shift8 n (by omega) (by omega)
  have l := bl8 (n / 256) (by omega)
  rw [e, Int.toNat_natCast, s]
  generalize Lib.bitLen (n / 256) = q at *
  rw [IntWalk.wrap64_in (q : Int) ⟨by omega, by omega⟩, IntWalk.wrap64_in _ ⟨by omega, by omega⟩]
  omega
theorem blen0 (x : Int) (h0 : 0 ≤ x) (h1 : x ≤ 255) : wrap64 (wrap64 ((Lib.bitLen x.toNat : Nat) : Int)) = ((Lib.bitLen x.toNat : Nat) : Int) := by
  have l := bl8 x.toNat (by omega)
  generalize Lib.bitLen x.toNat = q at *
  rw [IntWalk.wrap64_in (q : Int) ⟨by omega, by omega⟩, IntWalk.wrap64_in _ ⟨by omega, by omega⟩]

set_option maxHeartbeats 1000000 in
set_option maxRecDepth 100000 in
theorem len64 (x : Int) (w : World) (h0 : 0 ≤ x) (h1 : x ≤ 18446744073709551615) :
    Calls Try.prog 60 #[.int .u64 x] w fun e w' => e = .returned (.int .i64 (Lib.bitLen x.toNat)) ∧ w' = w := by
  go_enter Try.func60, Try.ntmps60
  go_wp2
  all_goals first
    | (exfalso; have hs := Lib.len8tab_size; omega)
    | go_ret
  all_goals refine ⟨congrArg Ending.returned (congrArg (Value.int IntKind.i64) ?_), rfl⟩
  all_goals simp only [idx8]
  all_goals first
    | exact blen56 x (by omega) (by omega)
    | exact blen48 x (by omega) (by omega)
    | exact blen40 x (by omega) (by omega)
    | exact blen32 x (by omega) (by omega)
    | exact blen24 x (by omega) (by omega)
    | exact blen16 x (by omega) (by omega)
    | exact blen8 x (by omega) (by omega)
    | exact blen0 x (by omega) (by omega)

theorem lz64 (y : Nat) (hy0 : 0 < y) (hy : y < 18446744073709551616) (w : World) :
    Calls Try.prog 49 #[.int .u64 y] w fun e w' => e = .returned (.int .i64 ((64 - Lib.bitLen y : Nat) : Int)) ∧ w = w' := by
  obtain ⟨n1, n2, _, _⟩ := Dv.norm y hy0 hy
  have hl := len64 (y : Int) w (by omega) (by omega)
  rw [Int.toNat_natCast] at hl
  generalize Lib.bitLen y = L at *
  have H := hid hl
  clear hl
  go_enter Try.func49, Try.ntmps49
  go_wp2_with fail
  refine H.out.mono ?_
  rintro e w' ⟨rfl, rfl⟩
  go_wp2
  go_ret
  exact ⟨by rw [show ((64 - L : Nat) : Int) = 64 - (L : Int) from by omega]; rfl, rfl⟩

theorem div_eqs {hi lo y s : Nat} (n4 : y * 2 ^ s < 18446744073709551616) (sh3 : hi * 2 ^ s < 18446744073709551616) (sh4 : lo / 2 ^ (64 - s) < 2 ^ s) :
    IntKind.u64.wrap ((y : Int) * 2 ^ s) = ((y * 2 ^ s : Nat) : Int) ∧
    (hi * 2 ^ s + lo / 2 ^ (64 - s) < 18446744073709551616 → bits .or .u64 (IntKind.u64.wrap ((hi : Int) * 2 ^ s)) ((lo : Int) / 2 ^ (64 - s)) = ((hi * 2 ^ s + lo / 2 ^ (64 - s) : Nat) : Int)) ∧
    IntKind.u64.wrap ((lo : Int) * 2 ^ s) = ((lo * 2 ^ s % 18446744073709551616 : Nat) : Int) := by
  have c : ∀ a b : Nat, ((a : Int) * 2 ^ b) = ((a * 2 ^ b : Nat) : Int) := fun a b => by rw [Int.natCast_mul, Int.natCast_pow]; rfl
  have d : ∀ a b : Nat, ((a : Int) / 2 ^ b) = ((a / 2 ^ b : Nat) : Int) := fun a b => by rw [Int.natCast_ediv, Int.natCast_pow]; rfl
  refine ⟨?_, fun hb => ?_, ?_⟩
  · rw [c, Mul64.wrapN _ n4]
  · rw [c, d, Mul64.wrapN _ sh3, bits_or_u64_nat _ _ sh3 (by omega), Dv.or_sum sh4]
  · rw [c, Mul64.wrapM]

set_option maxHeartbeats 1000000 in
theorem div64_small (lo y : Nat) (hlo : lo < 18446744073709551616) (hy : y < 18446744073709551616) (h : 0 < y) (w : World) :
    Calls Try.prog 45 #[.int .u64 0, .int .u64 lo, .int .u64 y] w fun e w' => e = .returned (.tuple #[.int .u64 ((lo / y : Nat) : Int), .int .u64 ((lo % y : Nat) : Int)]) ∧ Qt w w' := by
  have g1 : ((y : Int) == 0) = false := by simp; omega
  have g2 : ¬ (y : Int) ≤ 0 := by omega
  have d1 : (lo : Int) / (y : Int) = ((lo / y : Nat) : Int) := by rw [Int.natCast_ediv]
  have d2 : (lo : Int) % (y : Int) = ((lo % y : Nat) : Int) := by rw [Int.natCast_emod]
  have b1 := Nat.div_le_self lo y
  have b2 := Nat.mod_le lo y
  generalize lo / y = dq at *
  generalize lo % y = dr at *
  go_enter Try.func45, Try.ntmps45
  go_wp2
  go_quiet (fail)
  go_wp2
  go_ret2
  exact ⟨by rw [← d2]; rfl, _, rfl⟩
def DRel (u w v1 v0 : Nat) (x0 y0 : Value) : Prop := ∃ q r : Nat, x0 = .int .u64 q ∧ y0 = .int .u64 r ∧ r < 4294967296 ∧ Dv.St u w v1 v0 q r
theorem div_mid {u1 w1 v1 v0 q Y : Nat} (hY : Y = 4294967296 * v1 + v0) (H : Dv.Right u1 w1 v1 v0 q) (n4 : Y < 18446744073709551616) :
    ∃ r1 : Nat, IntKind.u64.wrap (IntKind.u64.wrap (IntKind.u64.wrap ((u1 : Int) * 4294967296) + (w1 : Int)) - IntKind.u64.wrap ((q : Int) * (Y : Int))) = (r1 : Int) ∧ r1 < Y ∧ 4294967296 * u1 + w1 = q * Y + r1 := by
  obtain ⟨h1, h2⟩ := H
  rw [← hY] at h1 h2
  obtain ⟨r1, hr1⟩ : ∃ r1, 4294967296 * u1 + w1 = q * Y + r1 := ⟨4294967296 * u1 + w1 - q * Y, by omega⟩
  exact ⟨r1, Dv.wrap3 u1 w1 q Y r1 hr1 (by omega), by omega, hr1⟩
theorem div_fin {y s Y u1 w1 w0 v1 v0 q1 q0 r1 M Q R : Nat} (hQ : Q = M / y) (hR : R = M % y) (hY : y * 2 ^ s = Y) (HN : 4294967296 * (4294967296 * u1 + w1) + w0 = M * 2 ^ s) (hYe : Y = 4294967296 * v1 + v0)
    (hE : 4294967296 * u1 + w1 = q1 * Y + r1) (H : Dv.Right r1 w0 v1 v0 q0) (hy : 0 < y) (n4 : Y < 18446744073709551616) :
    ∃ r3 : Nat, IntKind.u64.wrap (IntKind.u64.wrap (IntKind.u64.wrap ((r1 : Int) * 4294967296) + (w0 : Int)) - IntKind.u64.wrap ((q0 : Int) * (Y : Int))) = (r3 : Int) ∧ r3 < Y ∧
      (q1 : Int) * 4294967296 + (q0 : Int) = (Q : Int) ∧ (r3 : Int) / 2 ^ s = (R : Int) := by
  subst hQ hR
  obtain ⟨r3, e1, e2, e3⟩ := div_mid hYe H n4
  obtain ⟨h1, h2⟩ := H
  rw [← hYe] at h1 h2
  obtain ⟨f1, f2⟩ := Dv.both hY.symm HN hE h2 h1 hy
  refine ⟨r3, e1, e2, by rw [f1]; omega, ?_⟩
  rw [← f2, e3, Nat.add_sub_cancel_left, Int.natCast_ediv, Int.natCast_pow]; rfl

set_option maxRecDepth 100000 in
set_option maxHeartbeats 4000000 in
theorem div64_big (hi lo y : Nat) (hlo : lo < 18446744073709551616) (hy : y < 18446744073709551616) (h : hi < y) (h0 : 0 < hi) (w : World) :
    Calls Try.prog 45 #[.int .u64 hi, .int .u64 lo, .int .u64 y] w fun e w' => e = .returned (.tuple #[.int .u64 (((18446744073709551616 * hi + lo) / y : Nat) : Int), .int .u64 (((18446744073709551616 * hi + lo) % y : Nat) : Int)]) ∧ Qt w w' := by
  obtain ⟨Q, hQ⟩ : ∃ Q, Q = (18446744073709551616 * hi + lo) / y := ⟨_, rfl⟩
  obtain ⟨R, hR⟩ : ∃ R, R = (18446744073709551616 * hi + lo) % y := ⟨_, rfl⟩
  rw [← hQ, ← hR]
  have HQ := hid hQ
  have HR := hid hR
  clear hQ hR
  have hl := hid (lz64 y (by omega) hy w)
  obtain ⟨n1, n2, n3, n4⟩ := Dv.norm y (by omega) hy
  generalize hs : 64 - Lib.bitLen y = s at *
  have hs64 : s ≤ 63 := by omega
  clear hs n1 n2
  have g1 : ((y : Int) == 0) = false := by simp; omega
  have g2 : ¬ (y : Int) ≤ hi := by omega
  have g3 : ((hi : Int) == 0) = false := by simp; omega
  obtain ⟨sh1, sh2, sh3, sh4⟩ := Dv.shifted hs64 hlo h n4
  obtain ⟨eY, eU, eW⟩ := div_eqs (y := y) n4 sh3 sh4
  generalize hi * 2 ^ s + lo / 2 ^ (64 - s) = u1 at *
  have HW := hid (Nat.mod_lt (lo * 2 ^ s) (show 0 < 18446744073709551616 by decide))
  generalize lo * 2 ^ s % 18446744073709551616 = ww at *
  generalize hY : y * 2 ^ s = Y at *
  have HY := hid hY; clear hY
  have HN := hid sh1; clear sh1 sh3 sh4
  have eU := eU (by omega)
  have hww : ww < 18446744073709551616 := by have := HW.out; omega
  have eV0 := Dv.bitsAnd Y n4
  have eW0 := Dv.bitsAnd ww hww
  have eV1 : (Y : Int) / 4294967296 = ((Y / 4294967296 : Nat) : Int) := by omega
  have eW1 : (ww : Int) / 4294967296 = ((ww / 4294967296 : Nat) : Int) := by omega
  have hv0 : Y % 4294967296 < 4294967296 := by omega
  have hv1 : 2147483648 ≤ Y / 4294967296 ∧ Y / 4294967296 < 4294967296 := by omega
  have hw0 : ww % 4294967296 < 4294967296 := by omega
  have hw1 : ww / 4294967296 < 4294967296 := by omega
  have hYe := hid (show Y = 4294967296 * (Y / 4294967296) + Y % 4294967296 by omega)
  generalize Y / 4294967296 = v1 at *
  generalize Y % 4294967296 = v0 at *
  generalize ww / 4294967296 = w1 at *
  generalize ww % 4294967296 = w0 at *
  obtain ⟨q, r, eQ, eR, m0, m1, hr, hq, ST⟩ := Dv.guess (u1 := u1) (w1 := w1) hv0 hv1 hw1 (by rw [← hYe.out]; exact sh2) (by omega)
  obtain ⟨hv1a, hv1b⟩ := hv1
  go_enter Try.func45, Try.ntmps45
  go_wp2_with fail
  refine hl.out.mono ?_
  rintro e w' ⟨rfl, rfl⟩
  go_wp2
  go_loop [15, 16] (DRel u1 w1 v1 v0) (fun x0 _ => (intOf x0).toNat)
  case atStart => exact ⟨_, _, rfl, rfl, by assumption, ST⟩
  case round =>
    obtain ⟨qa, ra, rfl, rfl, hra, SA⟩ := hrel
    have hqa := SA.le
    by_cases hB : 4294967296 ≤ qa
    · obtain ⟨hq, S2⟩ := SA.step (.inl hB)
      have hB' : (4294967296 : Int) ≤ (qa : Int) := by omega
      by_cases hbr : 4294967296 ≤ ra + v1
      · have HRR : Dv.Right u1 w1 v1 v0 (qa - 1) := S2.done (S2.quit hbr (by omega))
        have hqlt : qa - 1 < 4294967296 := HRR.lt SA.bu0 SA.bu1
        obtain ⟨qb, hqb⟩ : ∃ qb, qb = qa - 1 := ⟨_, rfl⟩
        rw [← hqb] at HRR hqlt
        have eqa : (qa : Int) - 1 = (qb : Int) := by omega
        have hbr' : decide ((4294967296 : Int) ≤ (ra : Int) + (v1 : Int)) = true := by rw [decide_eq_true_eq]; omega
        clear SA S2 hB hbr hqb hq
        obtain ⟨r1, eR1, hr1, hE1⟩ := div_mid hYe.out HRR n4
        have hE1 := hid hE1
        have hq1lt := hqlt
        obtain ⟨q2, r2, eQ2, eR2, m20, m21, hr2, hq2, ST2⟩ := Dv.guess (u1 := r1) (w1 := w0) hv0 ⟨hv1a, hv1b⟩ hw0 (by rw [← hYe.out]; exact hr1) (by omega)
        clear HRR
        go_wp2_with fail
        clear eR1 eQ eR m0 m1 hr hq ST hqa hra hB'
        go_loop [18, 16] (DRel r1 w0 v1 v0) (fun x0 _ => (intOf x0).toNat)
        case atStart => exact ⟨_, _, rfl, rfl, by assumption, ST2⟩
        case round =>
          obtain ⟨qa, ra, rfl, rfl, hra, SA⟩ := hrel
          have hqa := SA.le
          by_cases hB : 4294967296 ≤ qa
          · obtain ⟨hq, S2⟩ := SA.step (.inl hB)
            have hB' : (4294967296 : Int) ≤ (qa : Int) := by omega
            by_cases hbr : 4294967296 ≤ ra + v1
            · have HRR : Dv.Right r1 w0 v1 v0 (qa - 1) := S2.done (S2.quit hbr (by omega))
              have hqlt : qa - 1 < 4294967296 := HRR.lt SA.bu0 SA.bu1
              obtain ⟨qb, hqb⟩ : ∃ qb, qb = qa - 1 := ⟨_, rfl⟩
              rw [← hqb] at HRR hqlt
              have eqa : (qa : Int) - 1 = (qb : Int) := by omega
              have hbr' : decide ((4294967296 : Int) ≤ (ra : Int) + (v1 : Int)) = true := by rw [decide_eq_true_eq]; omega
              clear SA S2 hB hbr hqb hq
              obtain ⟨r3, eR3, hr3, FV, FR⟩ := div_fin HQ.out HR.out HY.out HN.out hYe.out hE1.out HRR (show 0 < y by omega) n4
              have FV1 := hid FV
              have FR1 := hid FR
              clear HRR FV FR
              go_wp2
              go_ret2
              exact ⟨by rw [← FV1.out, ← FR1.out]; rfl, Qt.refl _⟩
            · have S3 := hid S2
              have hbr' : decide ((4294967296 : Int) ≤ (ra : Int) + (v1 : Int)) = false := by rw [decide_eq_false_iff_not]; omega
              have hra2 : ra + v1 < 4294967296 := by omega
              obtain ⟨qb, hqb⟩ : ∃ qb, qb = qa - 1 := ⟨_, rfl⟩
              rw [← hqb] at S3
              have eqa : (qa : Int) - 1 = (qb : Int) := by omega
              have hmu := hid (show qb < qa by omega)
              clear SA S2 hB hbr hqb hq
              go_wp2_with fail
              go_round
              case rel => exact ⟨qb, ra + v1, rfl, by go_num, hra2, S3.out⟩
              case measure => have := hmu.out; simp [intOf]; omega
          · obtain ⟨mb0, mb1⟩ := SA.mul_bd (by omega)
            have hcast : ((qa * v0 : Nat) : Int) = (qa : Int) * (v0 : Int) := Int.natCast_mul _ _
            have hB' : decide ((4294967296 : Int) ≤ (qa : Int)) = false := by rw [decide_eq_false_iff_not]; omega
            by_cases hC : 4294967296 * ra + w0 < qa * v0
            · obtain ⟨hq, S2⟩ := SA.step (.inr hC)
              have hC' : 4294967296 * (ra : Int) + (w0 : Int) < (qa : Int) * (v0 : Int) := by omega
              by_cases hbr : 4294967296 ≤ ra + v1
              · have HRR : Dv.Right r1 w0 v1 v0 (qa - 1) := S2.done (S2.quit hbr (by omega))
                have hqlt : qa - 1 < 4294967296 := HRR.lt SA.bu0 SA.bu1
                obtain ⟨qb, hqb⟩ : ∃ qb, qb = qa - 1 := ⟨_, rfl⟩
                rw [← hqb] at HRR hqlt
                have eqa : (qa : Int) - 1 = (qb : Int) := by omega
                have hbr' : decide ((4294967296 : Int) ≤ (ra : Int) + (v1 : Int)) = true := by rw [decide_eq_true_eq]; omega
                clear SA S2 hB hbr hqb hq hC hcast
                obtain ⟨r3, eR3, hr3, FV, FR⟩ := div_fin HQ.out HR.out HY.out HN.out hYe.out hE1.out HRR (show 0 < y by omega) n4
                have FV1 := hid FV
                have FR1 := hid FR
                clear HRR FV FR
                go_wp2
                go_ret2
                exact ⟨by rw [← FV1.out, ← FR1.out]; rfl, Qt.refl _⟩
              · have S3 := hid S2
                have hbr' : decide ((4294967296 : Int) ≤ (ra : Int) + (v1 : Int)) = false := by rw [decide_eq_false_iff_not]; omega
                have hra2 : ra + v1 < 4294967296 := by omega
                obtain ⟨qb, hqb⟩ : ∃ qb, qb = qa - 1 := ⟨_, rfl⟩
                rw [← hqb] at S3
                have eqa : (qa : Int) - 1 = (qb : Int) := by omega
                have hmu := hid (show qb < qa by omega)
                clear SA S2 hB hbr hqb hq hC hcast
                go_wp2_with fail
                go_round
                case rel => exact ⟨qb, ra + v1, rfl, by go_num, hra2, S3.out⟩
                case measure => have := hmu.out; simp [intOf]; omega
            · have HRR : Dv.Right r1 w0 v1 v0 qa := SA.done (by omega)
              have hC' : decide (4294967296 * (ra : Int) + (w0 : Int) < (qa : Int) * (v0 : Int)) = false := by rw [decide_eq_false_iff_not]; omega
              have hqlt : qa < 4294967296 := HRR.lt SA.bu0 SA.bu1
              clear SA hcast hB hC
              obtain ⟨r3, eR3, hr3, FV, FR⟩ := div_fin HQ.out HR.out HY.out HN.out hYe.out hE1.out HRR (show 0 < y by omega) n4
              have FV1 := hid FV
              have FR1 := hid FR
              clear HRR FV FR
              go_wp2
              go_ret2
              exact ⟨by rw [← FV1.out, ← FR1.out]; rfl, Qt.refl _⟩
      · have S3 := hid S2
        have hbr' : decide ((4294967296 : Int) ≤ (ra : Int) + (v1 : Int)) = false := by rw [decide_eq_false_iff_not]; omega
        have hra2 : ra + v1 < 4294967296 := by omega
        obtain ⟨qb, hqb⟩ : ∃ qb, qb = qa - 1 := ⟨_, rfl⟩
        rw [← hqb] at S3
        have eqa : (qa : Int) - 1 = (qb : Int) := by omega
        have hmu := hid (show qb < qa by omega)
        clear SA S2 hB hbr hqb hq
        go_wp2_with fail
        go_round
        case rel => exact ⟨qb, ra + v1, rfl, by go_num, hra2, S3.out⟩
        case measure => have := hmu.out; simp [intOf]; omega
    · obtain ⟨mb0, mb1⟩ := SA.mul_bd (by omega)
      have hcast : ((qa * v0 : Nat) : Int) = (qa : Int) * (v0 : Int) := Int.natCast_mul _ _
      have hB' : decide ((4294967296 : Int) ≤ (qa : Int)) = false := by rw [decide_eq_false_iff_not]; omega
      by_cases hC : 4294967296 * ra + w1 < qa * v0
      · obtain ⟨hq, S2⟩ := SA.step (.inr hC)
        have hC' : 4294967296 * (ra : Int) + (w1 : Int) < (qa : Int) * (v0 : Int) := by omega
        by_cases hbr : 4294967296 ≤ ra + v1
        · have HRR : Dv.Right u1 w1 v1 v0 (qa - 1) := S2.done (S2.quit hbr (by omega))
          have hqlt : qa - 1 < 4294967296 := HRR.lt SA.bu0 SA.bu1
          obtain ⟨qb, hqb⟩ : ∃ qb, qb = qa - 1 := ⟨_, rfl⟩
          rw [← hqb] at HRR hqlt
          have eqa : (qa : Int) - 1 = (qb : Int) := by omega
          have hbr' : decide ((4294967296 : Int) ≤ (ra : Int) + (v1 : Int)) = true := by rw [decide_eq_true_eq]; omega
          clear SA S2 hB hbr hqb hq hC hcast
          obtain ⟨r1, eR1, hr1, hE1⟩ := div_mid hYe.out HRR n4
          have hE1 := hid hE1
          have hq1lt := hqlt
          obtain ⟨q2, r2, eQ2, eR2, m20, m21, hr2, hq2, ST2⟩ := Dv.guess (u1 := r1) (w1 := w0) hv0 ⟨hv1a, hv1b⟩ hw0 (by rw [← hYe.out]; exact hr1) (by omega)
          clear HRR
          go_wp2_with fail
          clear eR1 eQ eR m0 m1 hr hq ST hqa hra hB'
          go_loop [18, 16] (DRel r1 w0 v1 v0) (fun x0 _ => (intOf x0).toNat)
          case atStart => exact ⟨_, _, rfl, rfl, by assumption, ST2⟩
          case round =>
            obtain ⟨qa, ra, rfl, rfl, hra, SA⟩ := hrel
            have hqa := SA.le
            by_cases hB : 4294967296 ≤ qa
            · obtain ⟨hq, S2⟩ := SA.step (.inl hB)
              have hB' : (4294967296 : Int) ≤ (qa : Int) := by omega
              by_cases hbr : 4294967296 ≤ ra + v1
              · have HRR : Dv.Right r1 w0 v1 v0 (qa - 1) := S2.done (S2.quit hbr (by omega))
                have hqlt : qa - 1 < 4294967296 := HRR.lt SA.bu0 SA.bu1
                obtain ⟨qb, hqb⟩ : ∃ qb, qb = qa - 1 := ⟨_, rfl⟩
                rw [← hqb] at HRR hqlt
                have eqa : (qa : Int) - 1 = (qb : Int) := by omega
                have hbr' : decide ((4294967296 : Int) ≤ (ra : Int) + (v1 : Int)) = true := by rw [decide_eq_true_eq]; omega
                clear SA S2 hB hbr hqb hq
                obtain ⟨r3, eR3, hr3, FV, FR⟩ := div_fin HQ.out HR.out HY.out HN.out hYe.out hE1.out HRR (show 0 < y by omega) n4
                have FV1 := hid FV
                have FR1 := hid FR
                clear HRR FV FR
                go_wp2
                go_ret2
                exact ⟨by rw [← FV1.out, ← FR1.out]; rfl, Qt.refl _⟩
              · have S3 := hid S2
                have hbr' : decide ((4294967296 : Int) ≤ (ra : Int) + (v1 : Int)) = false := by rw [decide_eq_false_iff_not]; omega
                have hra2 : ra + v1 < 4294967296 := by omega
                obtain ⟨qb, hqb⟩ : ∃ qb, qb = qa - 1 := ⟨_, rfl⟩
                rw [← hqb] at S3
                have eqa : (qa : Int) - 1 = (qb : Int) := by omega
                have hmu := hid (show qb < qa by omega)
                clear SA S2 hB hbr hqb hq
                go_wp2_with fail
                go_round
                case rel => exact ⟨qb, ra + v1, rfl, by go_num, hra2, S3.out⟩
                case measure => have := hmu.out; simp [intOf]; omega
            · obtain ⟨mb0, mb1⟩ := SA.mul_bd (by omega)
              have hcast : ((qa * v0 : Nat) : Int) = (qa : Int) * (v0 : Int) := Int.natCast_mul _ _
              have hB' : decide ((4294967296 : Int) ≤ (qa : Int)) = false := by rw [decide_eq_false_iff_not]; omega
              by_cases hC : 4294967296 * ra + w0 < qa * v0
              · obtain ⟨hq, S2⟩ := SA.step (.inr hC)
                have hC' : 4294967296 * (ra : Int) + (w0 : Int) < (qa : Int) * (v0 : Int) := by omega
                by_cases hbr : 4294967296 ≤ ra + v1
                · have HRR : Dv.Right r1 w0 v1 v0 (qa - 1) := S2.done (S2.quit hbr (by omega))
                  have hqlt : qa - 1 < 4294967296 := HRR.lt SA.bu0 SA.bu1
                  obtain ⟨qb, hqb⟩ : ∃ qb, qb = qa - 1 := ⟨_, rfl⟩
                  rw [← hqb] at HRR hqlt
                  have eqa : (qa : Int) - 1 = (qb : Int) := by omega
                  have hbr' : decide ((4294967296 : Int) ≤ (ra : Int) + (v1 : Int)) = true := by rw [decide_eq_true_eq]; omega
                  clear SA S2 hB hbr hqb hq hC hcast
                  obtain ⟨r3, eR3, hr3, FV, FR⟩ := div_fin HQ.out HR.out HY.out HN.out hYe.out hE1.out HRR (show 0 < y by omega) n4
                  have FV1 := hid FV
                  have FR1 := hid FR
                  clear HRR FV FR
                  go_wp2
                  go_ret2
                  exact ⟨by rw [← FV1.out, ← FR1.out]; rfl, Qt.refl _⟩
                · have S3 := hid S2
                  have hbr' : decide ((4294967296 : Int) ≤ (ra : Int) + (v1 : Int)) = false := by rw [decide_eq_false_iff_not]; omega
                  have hra2 : ra + v1 < 4294967296 := by omega
                  obtain ⟨qb, hqb⟩ : ∃ qb, qb = qa - 1 := ⟨_, rfl⟩
                  rw [← hqb] at S3
                  have eqa : (qa : Int) - 1 = (qb : Int) := by omega
                  have hmu := hid (show qb < qa by omega)
                  clear SA S2 hB hbr hqb hq hC hcast
                  go_wp2_with fail
                  go_round
                  case rel => exact ⟨qb, ra + v1, rfl, by go_num, hra2, S3.out⟩
                  case measure => have := hmu.out; simp [intOf]; omega
              · have HRR : Dv.Right r1 w0 v1 v0 qa := SA.done (by omega)
                have hC' : decide (4294967296 * (ra : Int) + (w0 : Int) < (qa : Int) * (v0 : Int)) = false := by rw [decide_eq_false_iff_not]; omega
                have hqlt : qa < 4294967296 := HRR.lt SA.bu0 SA.bu1
                clear SA hcast hB hC
                obtain ⟨r3, eR3, hr3, FV, FR⟩ := div_fin HQ.out HR.out HY.out HN.out hYe.out hE1.out HRR (show 0 < y by omega) n4
                have FV1 := hid FV
                have FR1 := hid FR
                clear HRR FV FR
                go_wp2
                go_ret2
                exact ⟨by rw [← FV1.out, ← FR1.out]; rfl, Qt.refl _⟩
        · have S3 := hid S2
          have hbr' : decide ((4294967296 : Int) ≤ (ra : Int) + (v1 : Int)) = false := by rw [decide_eq_false_iff_not]; omega
          have hra2 : ra + v1 < 4294967296 := by omega
          obtain ⟨qb, hqb⟩ : ∃ qb, qb = qa - 1 := ⟨_, rfl⟩
          rw [← hqb] at S3
          have eqa : (qa : Int) - 1 = (qb : Int) := by omega
          have hmu := hid (show qb < qa by omega)
          clear SA S2 hB hbr hqb hq hC hcast
          go_wp2_with fail
          go_round
          case rel => exact ⟨qb, ra + v1, rfl, by go_num, hra2, S3.out⟩
          case measure => have := hmu.out; simp [intOf]; omega
      · have HRR : Dv.Right u1 w1 v1 v0 qa := SA.done (by omega)
        have hC' : decide (4294967296 * (ra : Int) + (w1 : Int) < (qa : Int) * (v0 : Int)) = false := by rw [decide_eq_false_iff_not]; omega
        have hqlt : qa < 4294967296 := HRR.lt SA.bu0 SA.bu1
        clear SA hcast hB hC
        obtain ⟨r1, eR1, hr1, hE1⟩ := div_mid hYe.out HRR n4
        have hE1 := hid hE1
        have hq1lt := hqlt
        obtain ⟨q2, r2, eQ2, eR2, m20, m21, hr2, hq2, ST2⟩ := Dv.guess (u1 := r1) (w1 := w0) hv0 ⟨hv1a, hv1b⟩ hw0 (by rw [← hYe.out]; exact hr1) (by omega)
        clear HRR
        go_wp2_with fail
        clear eR1 eQ eR m0 m1 hr hq ST hqa hra hB'
        go_loop [18, 16] (DRel r1 w0 v1 v0) (fun x0 _ => (intOf x0).toNat)
        case atStart => exact ⟨_, _, rfl, rfl, by assumption, ST2⟩
        case round =>
          obtain ⟨qa, ra, rfl, rfl, hra, SA⟩ := hrel
          have hqa := SA.le
          by_cases hB : 4294967296 ≤ qa
          · obtain ⟨hq, S2⟩ := SA.step (.inl hB)
            have hB' : (4294967296 : Int) ≤ (qa : Int) := by omega
            by_cases hbr : 4294967296 ≤ ra + v1
            · have HRR : Dv.Right r1 w0 v1 v0 (qa - 1) := S2.done (S2.quit hbr (by omega))
              have hqlt : qa - 1 < 4294967296 := HRR.lt SA.bu0 SA.bu1
              obtain ⟨qb, hqb⟩ : ∃ qb, qb = qa - 1 := ⟨_, rfl⟩
              rw [← hqb] at HRR hqlt
              have eqa : (qa : Int) - 1 = (qb : Int) := by omega
              have hbr' : decide ((4294967296 : Int) ≤ (ra : Int) + (v1 : Int)) = true := by rw [decide_eq_true_eq]; omega
              clear SA S2 hB hbr hqb hq
              obtain ⟨r3, eR3, hr3, FV, FR⟩ := div_fin HQ.out HR.out HY.out HN.out hYe.out hE1.out HRR (show 0 < y by omega) n4
              have FV1 := hid FV
              have FR1 := hid FR
              clear HRR FV FR
              go_wp2
              go_ret2
              exact ⟨by rw [← FV1.out, ← FR1.out]; rfl, Qt.refl _⟩
            · have S3 := hid S2
              have hbr' : decide ((4294967296 : Int) ≤ (ra : Int) + (v1 : Int)) = false := by rw [decide_eq_false_iff_not]; omega
              have hra2 : ra + v1 < 4294967296 := by omega
              obtain ⟨qb, hqb⟩ : ∃ qb, qb = qa - 1 := ⟨_, rfl⟩
              rw [← hqb] at S3
              have eqa : (qa : Int) - 1 = (qb : Int) := by omega
              have hmu := hid (show qb < qa by omega)
              clear SA S2 hB hbr hqb hq
              go_wp2_with fail
              go_round
              case rel => exact ⟨qb, ra + v1, rfl, by go_num, hra2, S3.out⟩
              case measure => have := hmu.out; simp [intOf]; omega
          · obtain ⟨mb0, mb1⟩ := SA.mul_bd (by omega)
            have hcast : ((qa * v0 : Nat) : Int) = (qa : Int) * (v0 : Int) := Int.natCast_mul _ _
            have hB' : decide ((4294967296 : Int) ≤ (qa : Int)) = false := by rw [decide_eq_false_iff_not]; omega
            by_cases hC : 4294967296 * ra + w0 < qa * v0
            · obtain ⟨hq, S2⟩ := SA.step (.inr hC)
              have hC' : 4294967296 * (ra : Int) + (w0 : Int) < (qa : Int) * (v0 : Int) := by omega
              by_cases hbr : 4294967296 ≤ ra + v1
              · have HRR : Dv.Right r1 w0 v1 v0 (qa - 1) := S2.done (S2.quit hbr (by omega))
                have hqlt : qa - 1 < 4294967296 := HRR.lt SA.bu0 SA.bu1
                obtain ⟨qb, hqb⟩ : ∃ qb, qb = qa - 1 := ⟨_, rfl⟩
                rw [← hqb] at HRR hqlt
                have eqa : (qa : Int) - 1 = (qb : Int) := by omega
                have hbr' : decide ((4294967296 : Int) ≤ (ra : Int) + (v1 : Int)) = true := by rw [decide_eq_true_eq]; omega
                clear SA S2 hB hbr hqb hq hC hcast
                obtain ⟨r3, eR3, hr3, FV, FR⟩ := div_fin HQ.out HR.out HY.out HN.out hYe.out hE1.out HRR (show 0 < y by omega) n4
                have FV1 := hid FV
                have FR1 := hid FR
                clear HRR FV FR
                go_wp2
                go_ret2
                exact ⟨by rw [← FV1.out, ← FR1.out]; rfl, Qt.refl _⟩
              · have S3 := hid S2
                have hbr' : decide ((4294967296 : Int) ≤ (ra : Int) + (v1 : Int)) = false := by rw [decide_eq_false_iff_not]; omega
                have hra2 : ra + v1 < 4294967296 := by omega
                obtain ⟨qb, hqb⟩ : ∃ qb, qb = qa - 1 := ⟨_, rfl⟩
                rw [← hqb] at S3
                have eqa : (qa : Int) - 1 = (qb : Int) := by omega
                have hmu := hid (show qb < qa by omega)
                clear SA S2 hB hbr hqb hq hC hcast
                go_wp2_with fail
                go_round
                case rel => exact ⟨qb, ra + v1, rfl, by go_num, hra2, S3.out⟩
                case measure => have := hmu.out; simp [intOf]; omega
            · have HRR : Dv.Right r1 w0 v1 v0 qa := SA.done (by omega)
              have hC' : decide (4294967296 * (ra : Int) + (w0 : Int) < (qa : Int) * (v0 : Int)) = false := by rw [decide_eq_false_iff_not]; omega
              have hqlt : qa < 4294967296 := HRR.lt SA.bu0 SA.bu1
              clear SA hcast hB hC
              obtain ⟨r3, eR3, hr3, FV, FR⟩ := div_fin HQ.out HR.out HY.out HN.out hYe.out hE1.out HRR (show 0 < y by omega) n4
              have FV1 := hid FV
              have FR1 := hid FR
              clear HRR FV FR
              go_wp2
              go_ret2
              exact ⟨by rw [← FV1.out, ← FR1.out]; rfl, Qt.refl _⟩
end Go.Proofs.Ytibjkpejbihcpaa

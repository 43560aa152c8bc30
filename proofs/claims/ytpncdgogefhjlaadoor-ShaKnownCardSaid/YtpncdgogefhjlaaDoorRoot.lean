/- The walks of the reference's root, primes. -/
import Derived.Test.YtpncdgogefhjlaaDoorRootP
import Derived.Test.YtpncdgogefhjlaaDoorRef1d
namespace Go.Proofs.YtpncdgogefhjlaaDoor
open Go.RowKit

theorem tyInts : SliceTy Tryd.prog 79 3 1 8 (.int .i64 0) := .mk' (by kernel_rfl) (by kernel_rfl) rfl (by decide)
theorem tyInt1 : SliceTy Tryd.prog 52 3 1 8 (.int .i64 0) := .mk' (by kernel_rfl) (by kernel_rfl) rfl (by decide)
theorem Dig.shift {os : List Nat} {x : Nat} (h : Dig os x) (hx : 0 < x) : Dig (0 :: os) (256 * x) := by
  obtain ⟨h1, h2, h3⟩ := h
  refine ⟨by simp [val, h1], fun d hd => ?_, fun ys d hy => ?_⟩
  · rcases List.mem_cons.1 hd with rfl | hd
    · decide
    · exact h2 d hd
  · cases ys with
    | nil =>
      simp at hy
      have : os = [] := hy.2
      subst this
      simp [val] at h1
      omega
    | cons y r =>
      simp at hy
      exact h3 r d hy.2
theorem le_root {m X k P : Nat} (h1 : X ^ k ≤ P) (h2 : P < (X + 1) ^ k) : m ^ k ≤ P ↔ m ≤ X := by
  constructor
  · intro h
    rcases Nat.lt_or_ge X m with g | g
    · have := Nat.pow_le_pow_left (show X + 1 ≤ m from g) k; omega
    · exact g
  · intro h
    exact Nat.le_trans (Nat.pow_le_pow_left h k) h1
theorem cmpI_le_zero {x y : Nat} (h : x ≤ y) : cmpI x y ≤ 0 := by unfold cmpI; split <;> (try split) <;> omega
theorem cmpI_gt_zero {x y : Nat} (h : ¬ x ≤ y) : ¬ cmpI x y ≤ 0 := by unfold cmpI; rw [if_neg (by omega), if_pos (by omega)]; decide
def U32B (w : World) (x : Nat) (e : Ending) (w' : World) : Prop := e = .returned (.int .u32 (x : Int)) ∧ Below w.heap.size w w'
set_option maxRecDepth 100000 in
set_option maxHeartbeats 2000000 in
theorem root2_walk (p X : Nat) (hp0 : 0 < p) (hp : p < 1000) (h1 : X ^ 2 ≤ p * 2 ^ (32 * 2)) (h2 : p * 2 ^ (32 * 2) < (X + 1) ^ 2) (w : World) :
    Calls Tryd.prog 21 #[.int .i64 p, .int .i64 2] w (U32B w (X % 4294967296)) := by
  have HLE := hid (fun m => le_root (m := m) h1 h2)
  have hX37 : X < 137438953472 := by
    rcases Nat.lt_or_ge X 137438953472 with h | h
    · exact h
    · have := Nat.pow_le_pow_left h 2
      have h4 : (137438953472 : Nat) ^ 2 = 18889465931478580854784 := by decide
      rw [h4] at this
      have h5 : p * 2 ^ (32 * 2) ≤ 1000 * 18446744073709551616 := Nat.mul_le_mul (by omega) (by decide)
      omega
  have hPb := hid (show p * 2 ^ (32 * 2) < 256 ^ 16 from Nat.lt_of_le_of_lt (Nat.mul_le_mul (show p ≤ 1000 by omega) (Nat.le_refl _)) (by decide))
  obtain ⟨P, hP⟩ : ∃ P : Nat, P = p * 2 ^ (32 * 2) := ⟨_, rfl⟩
  rw [← hP] at HLE hPb
  have hP0 := hid (show p * 256 ^ (4 * 2) = P by rw [hP])
  have hwp : IntKind.u64.wrap (p : Int) = (p : Int) := by simp [IntKind.wrap, IntKind.signed, IntKind.bits]; omega
  clear h1 h2 hP
  go_enter Tryd.func21, Tryd.ntmps21
  go_wp2_with fail
  refine (of_walk p (by omega) _).mono ?_
  rintro e w1 ⟨v1, xs1, rfl, d1, s1, b1⟩
  have S1 := hid s1
  have D1 := hid d1
  have B1 := hid b1
  clear s1 d1 b1 hwp
  go_wp2
  go_loopw [5, 6] (fun x5 x6 wr => ∃ (i : Nat) (v : Value) (os : List Nat), i ≤ 4 * 2 ∧ v = x5 ∧ x6 = .int .i64 i ∧ Dig os (p * 256 ^ i) ∧ SlV .i64 wr v os ∧ Below w.heap.size w wr) (fun _ x6 _ => 4 * 2 - (intOf x6).toNat)
  case atStart => exact ⟨0, v1, xs1, by omega, rfl, rfl, by simpa using D1.out, S1.out, B1.out⟩
  case round =>
    obtain ⟨i, v, os, hi, rfl, rfl, hd, sv, hb⟩ := hrel
    clear S1 D1 B1
    have hlen := hid (hd.len_le (k := 16) (Nat.lt_of_le_of_lt (Nat.mul_le_mul (Nat.le_refl p) (pow256_le hi)) (by rw [hP0.out]; exact hPb.out)))
    obtain ⟨a, c, rfl, s⟩ := sv
    by_cases hlt : i < 4 * 2
    · have ti : decide ((i : Int) < 8) = true := by rw [decide_eq_true_eq]; omega
      have D2 := hid (show Dig (0 :: os) (p * 256 ^ (i + 1)) by
        have := hd.shift (Nat.mul_pos hp0 (Nat.pow_pos (by omega)))
        rw [Nat.pow_succ, ← Nat.mul_assoc, Nat.mul_comm (p * 256 ^ i)]; exact this)
      have hlb := hlen.out
      have O1 := hid (own_lit .i64 wr #[.int .i64 0] 3 [0] (n := 1) (B := wr.heap.size) rfl rfl (Nat.le_refl _) (by decide))
      have bb := (Below.refl wr.heap.size wr).alloc (Nat.le_refl _) (.cells #[.int .i64 0] 3)
      have S2 := hid (s.below bb)
      have BB := hid (hb.trans (bb.mono hb.size))
      have HBs := hid hb.size
      clear s hd hb bb
      go_wp2_with (at_builtin; refine wpList_cat rfl _ _ 79 rfl tyInts wr.heap.size O1.out rfl rfl S2.out (nums_oneCell _ _) ?c1 ?c2 ?c3 ?_)
      case c1 => omega
      case c2 => unfold maxLen; omega
      case c3 => simp
      intro v2 w2 own2 b2 hs2 _
      rw [nums_append] at own2
      have OW := hid (show w2.ownsRow wr.heap.size 3 1 v2 (0 :: os).length (nums .i64 (0 :: os)) by rw [List.length_cons, Nat.add_comm]; exact own2)
      have B2 := hid (BB.out.trans (b2.mono HBs.out))
      clear own2 b2 hs2
      go_wp2
      go_roundw
      case rel => exact ⟨i + 1, v2, 0 :: os, by omega, rfl, by go_num, D2.out, SlV.of_owns OW.out, B2.out⟩
      case measure => simp [intOf]; omega
    · have ti : decide ((i : Int) < 8) = false := by rw [decide_eq_false_iff_not]; omega
      have hd' := hid (show Dig os P by rw [← hP0.out, ← show i = 4 * 2 by omega]; exact hd)
      have HS := hid s
      have HB := hid hb
      have hl16 := hlen.out
      clear hd s hb hlen
      go_wp2
      generalize wr = W2 at *
      go_loopw [7, 8] (fun x7 x8 wr => ∃ lo hi : Nat, x7 = .int .u64 lo ∧ x8 = .int .u64 hi ∧ lo ≤ X ∧ X < hi ∧ hi ≤ 137438953472 ∧ Below W2.heap.size W2 wr) (fun x7 x8 _ => (intOf x8 - intOf x7).toNat)
      case atStart => exact ⟨0, 137438953472, rfl, rfl, by omega, by omega, by omega, Below.refl _ _⟩
      case round =>
        obtain ⟨lo, hi, rfl, rfl, hlo, hhi, hh37, hb⟩ := hrel
        clear ti
        by_cases hgo : 1 < hi - lo
        · have tg : decide ((hi : Int) - (lo : Int) > 1) = true := by rw [decide_eq_true_eq]; omega
          have tg2 : decide (1 < (hi : Int) - (lo : Int)) = true := by rw [decide_eq_true_eq]; omega
          obtain ⟨m, hm⟩ : ∃ m : Nat, m = (lo + hi) / 2 := ⟨_, rfl⟩
          have em : ((lo : Int) + (hi : Int)) / 2 = (m : Int) := by omega
          have hm1 : lo < m := by omega
          have hm2 : m < hi := by omega
          have hm64 : m < 18446744073709551616 := by omega
          have hwd : IntKind.u64.wrap ((hi : Int) - (lo : Int)) = (hi : Int) - (lo : Int) := by
            obtain ⟨dd, hdd⟩ : ∃ dd : Nat, (hi : Int) - (lo : Int) = (dd : Int) ∧ dd < 18446744073709551616 := ⟨hi - lo, by omega, by omega⟩
            rw [hdd.1]
            have := hdd.2
            clear hdd em tg tg2 hm
            simp [IntKind.wrap, IntKind.signed, IntKind.bits]; omega
          have HBW := hid hb
          have HS2 := hid (HS.out.below hb)
          have hHLE := hid (HLE.out m)
          clear hm hb
          go_wp2_with fail
          refine (of_walk m hm64 _).mono ?_
          rintro e w3 ⟨v3, xs3, rfl, d3, ⟨a3, c3, rfl, s3⟩, b3⟩
          have l3 := d3.len_le (k := 5) (Nat.lt_trans (show m < 137438953472 by omega) (by decide))
          have B3 := hid (HBW.out.trans (b3.mono HBW.out.size))
          have HS3 := hid (HS2.out.below b3)
          have X3 := hid s3
          have D3 := hid d3
          clear s3 d3 b3 HBW HS2
          go_wp2_with fail
          refine (mul_walk a3 a3 xs3.length xs3.length c3 c3 m m xs3 xs3 (by omega) (by omega) _ X3.out D3.out X3.out D3.out).mono ?_
          rintro e w4 ⟨v4, xs4, rfl, d4, ⟨a4, c4, rfl, s4⟩, b4⟩
          have l4 := d4.len_le (k := 10) (Nat.lt_of_lt_of_le (Nat.mul_lt_mul'' (show m < 137438953472 by omega) (show m < 137438953472 by omega)) (by decide))
          have B4 := hid (B3.out.trans (b4.mono B3.out.size))
          have HS4 := hid (HS3.out.below b4)
          have X4 := hid s4
          have D4 := hid d4
          have X3b := hid (X3.out.below b4)
          clear s4 d4 b4 B3 HS3
          by_cases hle : m ≤ X
          · have tc : decide (cmpI (m * m) P ≤ 0) = true := decide_eq_true (cmpI_le_zero (by have := hHLE.out.2 hle; simpa [Nat.pow_succ] using this))
            go_wp2_with fail
            refine (cmp_walk a4 a xs4.length os.length c4 c (m * m) P xs4 os (by omega) (by omega) _ X4.out D4.out HS4.out hd'.out).mono ?_
            rintro e w6 ⟨rfl, q6⟩
            have B6 := hid (B4.out.trans (q6.below _))
            clear q6
            go_wp2
            go_roundw
            case rel => exact ⟨m, hi, rfl, rfl, by omega, by omega, by omega, B6.out⟩
            case measure => simp [intOf]; omega
          · have tc : decide (cmpI (m * m) P ≤ 0) = false := decide_eq_false (cmpI_gt_zero (by intro h; exact hle (hHLE.out.1 (by simpa [Nat.pow_succ] using h))))
            go_wp2_with fail
            refine (cmp_walk a4 a xs4.length os.length c4 c (m * m) P xs4 os (by omega) (by omega) _ X4.out D4.out HS4.out hd'.out).mono ?_
            rintro e w6 ⟨rfl, q6⟩
            have B6 := hid (B4.out.trans (q6.below _))
            clear q6
            go_wp2
            go_roundw
            case rel => exact ⟨lo, m, rfl, rfl, by omega, by omega, by omega, B6.out⟩
            case measure => simp [intOf]; omega
        · have tg : decide ((hi : Int) - (lo : Int) > 1) = false := by rw [decide_eq_false_iff_not]; omega
          have tg2 : decide (1 < (hi : Int) - (lo : Int)) = false := by rw [decide_eq_false_iff_not]; omega
          obtain rfl : X = lo := by omega
          have hwd : IntKind.u64.wrap ((hi : Int) - (X : Int)) = (hi : Int) - (X : Int) := by
            obtain ⟨dd, hdd⟩ : ∃ dd : Nat, (hi : Int) - (X : Int) = (dd : Int) ∧ dd < 18446744073709551616 := ⟨hi - X, by omega, by omega⟩
            rw [hdd.1]
            have := hdd.2
            clear hdd tg tg2
            simp [IntKind.wrap, IntKind.signed, IntKind.bits]; omega
          obtain ⟨r, hr⟩ : ∃ r : Nat, r = X % 4294967296 := ⟨_, rfl⟩
          have er : (X : Int) % 4294967296 = (r : Int) := by omega
          have hr32 : r < 4294967296 := by omega
          have F := hid (show U32B w (X % 4294967296) (.returned (.int .u32 (r : Int))) wr from ⟨by rw [hr], HB.out.trans (hb.mono HB.out.size)⟩)
          clear hr hb
          go_wp2
          go_ret
          exact F.out
set_option maxRecDepth 100000 in
set_option maxHeartbeats 2000000 in
theorem root3_walk (p X : Nat) (hp0 : 0 < p) (hp : p < 1000) (h1 : X ^ 3 ≤ p * 2 ^ (32 * 3)) (h2 : p * 2 ^ (32 * 3) < (X + 1) ^ 3) (w : World) :
    Calls Tryd.prog 21 #[.int .i64 p, .int .i64 3] w (U32B w (X % 4294967296)) := by
  have HLE := hid (fun m => le_root (m := m) h1 h2)
  have hX37 : X < 137438953472 := by
    rcases Nat.lt_or_ge X 137438953472 with h | h
    · exact h
    · have := Nat.pow_le_pow_left h 3
      have h4 : (137438953472 : Nat) ^ 3 = 2596148429267413814265248164610048 := by decide
      rw [h4] at this
      have h5 : p * 2 ^ (32 * 3) ≤ 1000 * 79228162514264337593543950336 := Nat.mul_le_mul (by omega) (by decide)
      omega
  have hPb := hid (show p * 2 ^ (32 * 3) < 256 ^ 16 from Nat.lt_of_le_of_lt (Nat.mul_le_mul (show p ≤ 1000 by omega) (Nat.le_refl _)) (by decide))
  obtain ⟨P, hP⟩ : ∃ P : Nat, P = p * 2 ^ (32 * 3) := ⟨_, rfl⟩
  rw [← hP] at HLE hPb
  have hP0 := hid (show p * 256 ^ (4 * 3) = P by rw [hP])
  have hwp : IntKind.u64.wrap (p : Int) = (p : Int) := by simp [IntKind.wrap, IntKind.signed, IntKind.bits]; omega
  clear h1 h2 hP
  go_enter Tryd.func21, Tryd.ntmps21
  go_wp2_with fail
  refine (of_walk p (by omega) _).mono ?_
  rintro e w1 ⟨v1, xs1, rfl, d1, s1, b1⟩
  have S1 := hid s1
  have D1 := hid d1
  have B1 := hid b1
  clear s1 d1 b1 hwp
  go_wp2
  go_loopw [5, 6] (fun x5 x6 wr => ∃ (i : Nat) (v : Value) (os : List Nat), i ≤ 4 * 3 ∧ v = x5 ∧ x6 = .int .i64 i ∧ Dig os (p * 256 ^ i) ∧ SlV .i64 wr v os ∧ Below w.heap.size w wr) (fun _ x6 _ => 4 * 3 - (intOf x6).toNat)
  case atStart => exact ⟨0, v1, xs1, by omega, rfl, rfl, by simpa using D1.out, S1.out, B1.out⟩
  case round =>
    obtain ⟨i, v, os, hi, rfl, rfl, hd, sv, hb⟩ := hrel
    clear S1 D1 B1
    have hlen := hid (hd.len_le (k := 16) (Nat.lt_of_le_of_lt (Nat.mul_le_mul (Nat.le_refl p) (pow256_le hi)) (by rw [hP0.out]; exact hPb.out)))
    obtain ⟨a, c, rfl, s⟩ := sv
    by_cases hlt : i < 4 * 3
    · have ti : decide ((i : Int) < 12) = true := by rw [decide_eq_true_eq]; omega
      have D2 := hid (show Dig (0 :: os) (p * 256 ^ (i + 1)) by
        have := hd.shift (Nat.mul_pos hp0 (Nat.pow_pos (by omega)))
        rw [Nat.pow_succ, ← Nat.mul_assoc, Nat.mul_comm (p * 256 ^ i)]; exact this)
      have hlb := hlen.out
      have O1 := hid (own_lit .i64 wr #[.int .i64 0] 3 [0] (n := 1) (B := wr.heap.size) rfl rfl (Nat.le_refl _) (by decide))
      have bb := (Below.refl wr.heap.size wr).alloc (Nat.le_refl _) (.cells #[.int .i64 0] 3)
      have S2 := hid (s.below bb)
      have BB := hid (hb.trans (bb.mono hb.size))
      have HBs := hid hb.size
      clear s hd hb bb
      go_wp2_with (at_builtin; refine wpList_cat rfl _ _ 79 rfl tyInts wr.heap.size O1.out rfl rfl S2.out (nums_oneCell _ _) ?c1 ?c2 ?c3 ?_)
      case c1 => omega
      case c2 => unfold maxLen; omega
      case c3 => simp
      intro v2 w2 own2 b2 hs2 _
      rw [nums_append] at own2
      have OW := hid (show w2.ownsRow wr.heap.size 3 1 v2 (0 :: os).length (nums .i64 (0 :: os)) by rw [List.length_cons, Nat.add_comm]; exact own2)
      have B2 := hid (BB.out.trans (b2.mono HBs.out))
      clear own2 b2 hs2
      go_wp2
      go_roundw
      case rel => exact ⟨i + 1, v2, 0 :: os, by omega, rfl, by go_num, D2.out, SlV.of_owns OW.out, B2.out⟩
      case measure => simp [intOf]; omega
    · have ti : decide ((i : Int) < 12) = false := by rw [decide_eq_false_iff_not]; omega
      have hd' := hid (show Dig os P by rw [← hP0.out, ← show i = 4 * 3 by omega]; exact hd)
      have HS := hid s
      have HB := hid hb
      have hl16 := hlen.out
      clear hd s hb hlen
      go_wp2
      generalize wr = W2 at *
      go_loopw [7, 8] (fun x7 x8 wr => ∃ lo hi : Nat, x7 = .int .u64 lo ∧ x8 = .int .u64 hi ∧ lo ≤ X ∧ X < hi ∧ hi ≤ 137438953472 ∧ Below W2.heap.size W2 wr) (fun x7 x8 _ => (intOf x8 - intOf x7).toNat)
      case atStart => exact ⟨0, 137438953472, rfl, rfl, by omega, by omega, by omega, Below.refl _ _⟩
      case round =>
        obtain ⟨lo, hi, rfl, rfl, hlo, hhi, hh37, hb⟩ := hrel
        clear ti
        by_cases hgo : 1 < hi - lo
        · have tg : decide ((hi : Int) - (lo : Int) > 1) = true := by rw [decide_eq_true_eq]; omega
          have tg2 : decide (1 < (hi : Int) - (lo : Int)) = true := by rw [decide_eq_true_eq]; omega
          obtain ⟨m, hm⟩ : ∃ m : Nat, m = (lo + hi) / 2 := ⟨_, rfl⟩
          have em : ((lo : Int) + (hi : Int)) / 2 = (m : Int) := by omega
          have hm1 : lo < m := by omega
          have hm2 : m < hi := by omega
          have hm64 : m < 18446744073709551616 := by omega
          have hwd : IntKind.u64.wrap ((hi : Int) - (lo : Int)) = (hi : Int) - (lo : Int) := by
            obtain ⟨dd, hdd⟩ : ∃ dd : Nat, (hi : Int) - (lo : Int) = (dd : Int) ∧ dd < 18446744073709551616 := ⟨hi - lo, by omega, by omega⟩
            rw [hdd.1]
            have := hdd.2
            clear hdd em tg tg2 hm
            simp [IntKind.wrap, IntKind.signed, IntKind.bits]; omega
          have HBW := hid hb
          have HS2 := hid (HS.out.below hb)
          have hHLE := hid (HLE.out m)
          clear hm hb
          go_wp2_with fail
          refine (of_walk m hm64 _).mono ?_
          rintro e w3 ⟨v3, xs3, rfl, d3, ⟨a3, c3, rfl, s3⟩, b3⟩
          have l3 := d3.len_le (k := 5) (Nat.lt_trans (show m < 137438953472 by omega) (by decide))
          have B3 := hid (HBW.out.trans (b3.mono HBW.out.size))
          have HS3 := hid (HS2.out.below b3)
          have X3 := hid s3
          have D3 := hid d3
          clear s3 d3 b3 HBW HS2
          go_wp2_with fail
          refine (mul_walk a3 a3 xs3.length xs3.length c3 c3 m m xs3 xs3 (by omega) (by omega) _ X3.out D3.out X3.out D3.out).mono ?_
          rintro e w4 ⟨v4, xs4, rfl, d4, ⟨a4, c4, rfl, s4⟩, b4⟩
          have l4 := d4.len_le (k := 10) (Nat.lt_of_lt_of_le (Nat.mul_lt_mul'' (show m < 137438953472 by omega) (show m < 137438953472 by omega)) (by decide))
          have B4 := hid (B3.out.trans (b4.mono B3.out.size))
          have HS4 := hid (HS3.out.below b4)
          have X4 := hid s4
          have D4 := hid d4
          have X3b := hid (X3.out.below b4)
          clear s4 d4 b4 B3 HS3
          go_wp2_with fail
          refine (mul_walk a4 a3 xs4.length xs3.length c4 c3 (m * m) m xs4 xs3 (by omega) (by omega) _ X4.out D4.out X3b.out D3.out).mono ?_
          rintro e w5 ⟨v5, xs5, rfl, d5, ⟨a5, c5, rfl, s5⟩, b5⟩
          have l5 := d5.len_le (k := 15) (Nat.lt_of_lt_of_le (Nat.mul_lt_mul'' (Nat.mul_lt_mul'' (show m < 137438953472 by omega) (show m < 137438953472 by omega)) (show m < 137438953472 by omega)) (by decide))
          have B5 := hid (B4.out.trans (b5.mono B4.out.size))
          have HS5 := hid (HS4.out.below b5)
          have X5 := hid s5
          have D5 := hid d5
          clear s5 d5 b5
          by_cases hle : m ≤ X
          · have tc : decide (cmpI (m * m * m) P ≤ 0) = true := decide_eq_true (cmpI_le_zero (by have := hHLE.out.2 hle; simpa [Nat.pow_succ] using this))
            go_wp2_with fail
            refine (cmp_walk a5 a xs5.length os.length c5 c (m * m * m) P xs5 os (by omega) (by omega) _ X5.out D5.out HS5.out hd'.out).mono ?_
            rintro e w6 ⟨rfl, q6⟩
            have B6 := hid (B5.out.trans (q6.below _))
            clear q6
            go_wp2
            go_roundw
            case rel => exact ⟨m, hi, rfl, rfl, by omega, by omega, by omega, B6.out⟩
            case measure => simp [intOf]; omega
          · have tc : decide (cmpI (m * m * m) P ≤ 0) = false := decide_eq_false (cmpI_gt_zero (by intro h; exact hle (hHLE.out.1 (by simpa [Nat.pow_succ] using h))))
            go_wp2_with fail
            refine (cmp_walk a5 a xs5.length os.length c5 c (m * m * m) P xs5 os (by omega) (by omega) _ X5.out D5.out HS5.out hd'.out).mono ?_
            rintro e w6 ⟨rfl, q6⟩
            have B6 := hid (B5.out.trans (q6.below _))
            clear q6
            go_wp2
            go_roundw
            case rel => exact ⟨lo, m, rfl, rfl, by omega, by omega, by omega, B6.out⟩
            case measure => simp [intOf]; omega
        · have tg : decide ((hi : Int) - (lo : Int) > 1) = false := by rw [decide_eq_false_iff_not]; omega
          have tg2 : decide (1 < (hi : Int) - (lo : Int)) = false := by rw [decide_eq_false_iff_not]; omega
          obtain rfl : X = lo := by omega
          have hwd : IntKind.u64.wrap ((hi : Int) - (X : Int)) = (hi : Int) - (X : Int) := by
            obtain ⟨dd, hdd⟩ : ∃ dd : Nat, (hi : Int) - (X : Int) = (dd : Int) ∧ dd < 18446744073709551616 := ⟨hi - X, by omega, by omega⟩
            rw [hdd.1]
            have := hdd.2
            clear hdd tg tg2
            simp [IntKind.wrap, IntKind.signed, IntKind.bits]; omega
          obtain ⟨r, hr⟩ : ∃ r : Nat, r = X % 4294967296 := ⟨_, rfl⟩
          have er : (X : Int) % 4294967296 = (r : Int) := by omega
          have hr32 : r < 4294967296 := by omega
          have F := hid (show U32B w (X % 4294967296) (.returned (.int .u32 (r : Int))) wr from ⟨by rw [hr], HB.out.trans (hb.mono HB.out.size)⟩)
          clear hr hb
          go_wp2
          go_ret
          exact F.out
end Go.Proofs.YtpncdgogefhjlaaDoor

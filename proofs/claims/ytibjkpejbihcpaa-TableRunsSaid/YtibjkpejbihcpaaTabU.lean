/- TableUndo. -/
import Derived.Test.YtibjkpejbihcpaaTabH
namespace Go.Proofs.Ytibjkpejbihcpaa
open Go.RowKit

def uq (N used : Nat) : Quo := ⟨h1x, h9x, false, N, 1, 1, 1, 5, used⟩
theorem payB_11 (u : Nat) : payB u 1 u 1 = true := by unfold payB; rw [if_neg (by omega)]; simp
theorem holds_yes {q : Quo} {ht : Int} {u : Nat} (hs : q.st = 1) (h1 : ¬ q.til < ht) (hu : q.used + u < 18446744073709551616) : holdsS (some q) ht u = if q.most < q.used + u then (qz, 51) else ({ q with used := q.used + u }, 0) := by
  unfold holdsS
  simp only
  rw [if_pos hs, if_neg h1, if_pos hu]
theorem use_poor {q : Quo} {ht : Int} {u : Nat} {buy : Bool} {kept : Nat → Nat → Bool} (hs : q.st = 1) (h1 : ¬ q.til < ht) (hu : q.used + u < 18446744073709551616) (h : q.most < q.used + u) (hu0 : u ≠ 0) : useS (some q) buy ht u kept = (qz, 51) := by
  unfold useS
  rw [if_neg hu0, holds_yes hs h1 hu, if_pos h, if_pos (by simp)]
theorem holds_fit {q : Quo} {ht : Int} {u : Nat} (hs : q.st = 1) (h1 : ¬ q.til < ht) (hm : q.most < 18446744073709551616) (h : q.used + u ≤ q.most) : holdsS (some q) ht u = ({ q with used := q.used + u }, 0) := by
  rw [holds_yes hs h1 (by omega), if_neg (show ¬ q.most < q.used + u by omega)]
theorem use_ok {q : Quo} {ht : Int} {u : Nat} {buy : Bool} {kept : Nat → Nat → Bool} (hs : q.st = 1) (h1 : ¬ q.til < ht) (hm : q.most < 18446744073709551616) (h : q.used + u ≤ q.most) (hu0 : u ≠ 0) (hb : q.buy = buy) (hk : kept q.rc q.ru = true) : useS (some q) buy ht u kept = ({ q with used := q.used + u }, 0) := by
  unfold useS
  rw [if_neg hu0, holds_fit hs h1 hm h, if_neg (by simp), if_neg]
  simp [hb, hk]
theorem use_rate {q : Quo} {ht : Int} {u : Nat} {buy : Bool} {kept : Nat → Nat → Bool} (hs : q.st = 1) (h1 : ¬ q.til < ht) (hm : q.most < 18446744073709551616) (h : q.used + u ≤ q.most) (hu0 : u ≠ 0) (hb : q.buy ≠ buy ∨ kept q.rc q.ru = false) : useS (some q) buy ht u kept = (qz, 60) := by
  unfold useS
  rw [if_neg hu0, holds_fit hs h1 hm h, if_neg (by simp), if_pos hb]
theorem und_ok {q : Quo} {a : Nat} (h : a ≤ q.used) : undoS (some q) a = ({ q with used := q.used - a }, 0) := by
  unfold undoS
  simp only
  rw [if_neg (by omega)]
theorem und_less {q : Quo} {a : Nat} (h : q.used < a) : undoS (some q) a = (qz, 11) := by
  unfold undoS
  simp only
  rw [if_pos h]
theorem sell_ok {N used u : Nat} (h : used + u ≤ N) (hN : N < 18446744073709551616) (hu : u ≠ 0) : useS (some (uq N used)) false 5 u (fun rc ru => payB u rc u ru) = (uq N (used + u), 0) :=
  use_ok (q := uq N used) rfl (show ¬ (5:Int) < 5 by decide) hN h hu rfl (payB_11 u)
theorem sell_poor {N used u : Nat} (h : N < used + u) (hN : used + u < 18446744073709551616) (hu : u ≠ 0) : useS (some (uq N used)) false 5 u (fun rc ru => payB u rc u ru) = (qz, 51) :=
  use_poor (q := uq N used) rfl (show ¬ (5:Int) < 5 by decide) hN h hu
theorem undo_ok {N used a : Nat} (h : a ≤ used) : undoS (some (uq N used)) a = (uq N (used - a), 0) := und_ok (q := uq N used) h
theorem undo_less {N used a : Nat} (h : used < a) : undoS (some (uq N used)) a = (qz, 11) := und_less (q := uq N used) h
theorem and16 {x : Nat} (hx : x < 18446744073709551616) : bits .and .u64 (x : Int) 65535 = ((x % 65536 : Nat) : Int) := by
  have h := bits_and_u64_nat x 65535 hx (by omega)
  rw [show x &&& 65535 = x % 65536 from Nat.and_two_pow_sub_one_eq_mod x 16] at h
  exact h
theorem and8 {x : Nat} (hx : x < 18446744073709551616) : bits .and .u64 (x : Int) 255 = ((x % 256 : Nat) : Int) := by
  have h := bits_and_u64_nat x 255 hx (by omega)
  rw [show x &&& 255 = x % 256 from Nat.and_two_pow_sub_one_eq_mod x 8] at h
  exact h
set_option maxRecDepth 100000 in
set_option maxHeartbeats 4000000 in
theorem lawUndo (most a b : Nat) (hm : most < 18446744073709551616) (ha : a < 18446744073709551616) (hb : b < 18446744073709551616) (w : World) :
    Calls Try.prog 4 #[.int .u64 most, .int .u64 a, .int .u64 b] w (fun e w' => e = .returned (.bool true) ∧ Below w.heap.size w w') := by
  have un := Try.underlying30
  have hiH : (Try.prog.info? 30).map (·.size) = some (nums .u8 h1x).length := by kernel_rfl
  have hiA : (Try.prog.info? 30).map (·.size) = some (nums .u8 h1x).toArray.size := by kernel_rfl
  have h1o := hid (all_oneCell_toArray (nums_oneCell .u8 h1x))
  have e1 := and16 hm
  have e2 := and16 ha
  have e3 := and8 hb
  go_enter Try.func4, Try.ntmps4
  go_wp2_with (fail)
  refine (thead_walk w).mono ?_
  rintro e w0 ⟨rfl, b0⟩
  have B0 := hid b0
  clear b0
  go_upto_region 4 with (fail)
  obtain ⟨N, hN, n1, n2⟩ : ∃ N : Nat, 1 + (most : Int) % 65536 = (N : Int) ∧ 1 ≤ N ∧ N ≤ 65536 := ⟨1 + most % 65536, by omega, by omega, by omega⟩
  simp only [hN]
  have n0 : ((N : Int) == 0) = false := by simp; omega
  have hN64 : N < 18446744073709551616 := by omega
  clear hN e1
  go_upto_region 5 with (fail)
  obtain ⟨A, hA, a1, a2⟩ : ∃ A : Nat, 1 + (a : Int) % 65536 % (N : Int) = (A : Int) ∧ 1 ≤ A ∧ A ≤ N := ⟨1 + a % 65536 % N, by simp [Int.natCast_add, Int.natCast_emod], by omega, by have := Nat.mod_lt (a % 65536) (show 0 < N by omega); omega⟩
  simp only [hA]
  have A64 : A < 18446744073709551616 := by omega
  clear hA e2 n0
  go_wp2_with (fail)
  refine (tnew_walk w0).mono ?_
  rintro e w1 ⟨tb, mb, rfl, t1, l1, l2, b1⟩
  have T1 := hid t1
  have L2 := hid l2
  have B1 := hid b1
  clear t1 l1 l2 b1
  go_upto_region 7 with (refine wpList_store_row rfl _ _ _ rfl w1.heap.size (nums .u8 h1x).toArray rfl rfl _ _ (heap_alloc_new w1 _) hiA rfl h1o.out ?_)
  have R0 := fun z => hid (bare_new (z := z) B1.out T1.out L2.out rfl)
  generalize hK : w1.heap.size = K at *
  generalize hW : World.setRow _ K _ = w2
  replace R0 := hid (hW ▸ (R0 _).out : Bare w0 tb mb h1x K w2)
  clear hW hK B1 T1 L2
  have f := R0.out.key
  go_wp2_with (first | refine wpList_load_mid rfl _ _ rfl K 0 rfl (nums .u8 h1x) _ f un rfl hiH ?_ | refine wpList_load_midG rfl _ _ rfl K 0 rfl (nums .u8 h1x) _ f un rfl hiH ?_)
  refine (bare_ask (id := h9x) R0.out h1_ok h9_ok false N hN64 (by omega) h9_ne).mono ?_
  rintro e w3 ⟨rfl, r⟩
  have R1 := hid r
  clear R0 r f
  have f := R1.out.key
  go_wp2_with (first | refine wpList_load_mid rfl _ _ rfl K 0 rfl (nums .u8 h1x) _ f un rfl hiH ?_ | refine wpList_load_midG rfl _ _ rfl K 0 rfl (nums .u8 h1x) _ f un rfl hiH ?_)
  refine (rung_acc (q' := uq N 0) (k := 0) R1.out h1_ok 1 1 5 (by decide) (by decide) (by decide) rfl rfl).mono ?_
  rintro e w4 ⟨rfl, r⟩
  have R2 := hid r
  clear R1 r f
  have f := R2.out.key
  go_wp2_with (first | refine wpList_load_mid rfl _ _ rfl K 0 rfl (nums .u8 h1x) _ f un rfl hiH ?_ | refine wpList_load_midG rfl _ _ rfl K 0 rfl (nums .u8 h1x) _ f un rfl hiH ?_)
  refine (rung_sell (q' := uq N N) (k := 0) R2.out h1_ok 5 N N hN64 hN64 (by rw [sell_ok (by omega) hN64 (by omega)]) (by rw [sell_ok (by omega) hN64 (by omega), Nat.zero_add]; rfl)).mono ?_
  rintro e w5 ⟨rfl, r⟩
  have R3 := hid r
  clear R2 r f
  have f := R3.out.key
  go_wp2_with (first | refine wpList_load_mid rfl _ _ rfl K 0 rfl (nums .u8 h1x) _ f un rfl hiH ?_ | refine wpList_load_midG rfl _ _ rfl K 0 rfl (nums .u8 h1x) _ f un rfl hiH ?_)
  refine (rung_sell (q' := uq N N) (k := 51) R3.out h1_ok 5 1 1 (by decide) (by decide) (by rw [sell_poor (by omega) (by omega) (by omega)]) (by rw [sell_poor (by omega) (by omega) (by omega)]; rfl)).mono ?_
  rintro e w6 ⟨rfl, r⟩
  have R4 := hid r
  clear R3 r f
  have f := R4.out.key
  go_wp2_with (first | refine wpList_load_mid rfl _ _ rfl K 0 rfl (nums .u8 h1x) _ f un rfl hiH ?_ | refine wpList_load_midG rfl _ _ rfl K 0 rfl (nums .u8 h1x) _ f un rfl hiH ?_)
  refine (rung_undo (q' := uq N (N - A)) (k := 0) R4.out h1_ok A A64 (by rw [undo_ok a2]) (by rw [undo_ok a2]; rfl)).mono ?_
  rintro e w7 ⟨rfl, r⟩
  have R5 := hid r
  clear R4 r f
  have f := R5.out.key
  go_wp2_with (first | refine wpList_load_mid rfl _ _ rfl K 0 rfl (nums .u8 h1x) _ f un rfl hiH ?_ | refine wpList_load_midG rfl _ _ rfl K 0 rfl (nums .u8 h1x) _ f un rfl hiH ?_)
  rw [show (N : Int) - A + 1 + b % 256 = ((N - A + 1 + b % 256 : Nat) : Int) by omega]
  refine (rung_undo (q' := uq N (N - A)) (k := 11) R5.out h1_ok (N - A + 1 + b % 256) (by omega) (by rw [undo_less (by omega)]) (by rw [undo_less (by omega)]; rfl)).mono ?_
  rintro e w8 ⟨rfl, r⟩
  have R6 := hid r
  clear R5 r f
  have f := R6.out.key
  go_wp2_with (first | refine wpList_load_mid rfl _ _ rfl K 0 rfl (nums .u8 h1x) _ f un rfl hiH ?_ | refine wpList_load_midG rfl _ _ rfl K 0 rfl (nums .u8 h1x) _ f un rfl hiH ?_)
  rw [show (A : Int) + 1 = ((A + 1 : Nat) : Int) by omega]
  refine (rung_sell (q' := uq N (N - A)) (k := 51) R6.out h1_ok 5 (A + 1) (A + 1) (by omega) (by omega) (by rw [sell_poor (by omega) (by omega) (by omega)]) (by rw [sell_poor (by omega) (by omega) (by omega)]; rfl)).mono ?_
  rintro e w9 ⟨rfl, r⟩
  have R7 := hid r
  clear R6 r f
  have f := R7.out.key
  go_wp2_with (first | refine wpList_load_mid rfl _ _ rfl K 0 rfl (nums .u8 h1x) _ f un rfl hiH ?_ | refine wpList_load_midG rfl _ _ rfl K 0 rfl (nums .u8 h1x) _ f un rfl hiH ?_)
  refine (rung_sell (q' := uq N N) (k := 0) R7.out h1_ok 5 A A A64 A64 (by rw [sell_ok (by omega) hN64 (by omega)]) (by rw [sell_ok (by omega) hN64 (by omega), show N - A + A = N by omega]; rfl)).mono ?_
  rintro e w10 ⟨rfl, r⟩
  have R8 := hid r
  clear R7 r f
  go_wp2
  go_ret
  exact ⟨rfl, bstep B0.out R8.out.bel⟩
end Go.Proofs.Ytibjkpejbihcpaa

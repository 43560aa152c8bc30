/- Contracts of package tlv: big, Size. -/
import Derived.Test.YtgaidleepjkldaaByt
namespace Go.Proofs.Ytgaidleepjkldaa
open Go.RowKit

/-- n bytes of x, the highest first -/
def be : Nat → Nat → List Nat
  | 0, _ => []
  | n + 1, x => x / 256 ^ n % 256 :: be n x
theorem be_length (n x : Nat) : (be n x).length = n := by induction n with
  | zero => rfl
  | succ n ih => simp [be, ih]
theorem be_lt (n x : Nat) : ∀ d ∈ be n x, d < 256 := by induction n with
  | zero => simp [be]
  | succ n ih =>
    intro d hd
    rcases List.mem_cons.1 hd with rfl | hd
    · omega
    · exact ih d hd
theorem be_digit (x j : Nat) : (x : Int) / 2 ^ (8 * j) % 256 = ((x / 256 ^ j % 256 : Nat) : Int) := by
  rw [show (256 : Nat) ^ j = 2 ^ (8 * j) from by rw [Nat.pow_mul], Int.natCast_emod, Int.natCast_ediv, Int.natCast_pow]; rfl
/-- a number's bytes -/
def size (x : Nat) : List Nat := if x < 253 then [x] else if x < 65536 then 253 :: be 2 x else if x < 4294967296 then 254 :: be 4 x else 255 :: be 8 x

set_option maxHeartbeats 400000 in
theorem big_walk (B : Nat) (v : Value) (xs : List Nat) (x n : Nat) (_hx : x < 18446744073709551616) (hn : n ≤ 8) (hl : xs.length < 1000) (w : World) (hB : B ≤ w.heap.size) (hown : w.ownsRow B 5 1 v xs.length (nums .u8 xs)) :
    Calls Try.prog 30 #[v, .int .u64 x, .int .i64 n] w fun e w' => ∃ v', e = .returned v' ∧ w'.ownsRow B 5 1 v' (xs ++ be n x).length (nums .u8 (xs ++ be n x)) ∧ Below B w w' := by
  go_enter Try.func30, Try.ntmps30
  go_wp2
  go_loopw [0, 7] (fun v0 i0 wr => ∃ (k : Nat) (ps : List Nat), k ≤ n ∧ i0 = .int .i64 ((k : Int) - 1) ∧ Hid (ps ++ be k x = be n x) ∧ wr.ownsRow B 5 1 v0 (xs ++ ps).length (nums .u8 (xs ++ ps)) ∧ Below B w wr ∧ B ≤ wr.heap.size) (fun _ i0 _ => (intOf i0 + 1).toNat)
  case atStart => exact ⟨n, [], by omega, rfl, hid rfl, by simpa using hown, Below.refl _ _, hB⟩
  case round =>
    clear hown hB
    obtain ⟨k, ps, hk, rfl, hps, hown, hb, hB⟩ := hrel
    by_cases h0 : 0 < k
    · obtain ⟨j, rfl⟩ : ∃ j, k = j + 1 := ⟨k - 1, by omega⟩
      have hol : (xs ++ ps).length < 4294967296 := by
        have h1 := congrArg List.length hps.out
        simp [be_length] at h1
        simp
        omega
      have ej : (((j + 1 : Nat) : Int) - 1) = (j : Int) := by omega
      rw [ej]
      clear ej
      go_wp2_with (at_builtin; refine wpList_push rfl _ _ 26 rfl tyBs B hown rfl rfl rfl rfl hol (by decide) hB ?_)
      intro v1 w1 hown1 hb1 hs1 _
      have hown2 : w1.ownsRow B 5 1 v1 ((xs ++ ps).length + 1) (nums .u8 (xs ++ ps) ++ [Value.int .u8 ((x : Int) / 2 ^ (8 * j) % 256)]) := by rw [List.length_append]; exact hown1
      have hown3 := own_snoc hown2 (be_digit x j)
      rw [List.append_assoc] at hown3
      clear hown1 hown2 hown
      go_wp2
      go_roundw
      case rel => exact ⟨j, ps ++ [x / 256 ^ j % 256], by omega, rfl, hid (by rw [List.append_assoc]; exact hps.out), hown3, hb.trans hb1, by omega⟩
      case measure => simp [intOf]
    · obtain rfl : k = 0 := by omega
      have hps' := hps.out
      simp only [be, List.append_nil] at hps'
      rw [hps'] at hown
      have H := hid hown
      clear hown hps hps'
      go_wp2
      go_ret
      exact ⟨_, rfl, H.out, hb⟩
/-- a new row of bytes -/
def BytesRes (w : World) (xs : List Nat) (e : Ending) (w' : World) : Prop := ∃ v, e = .returned v ∧ w'.ownsRow w.heap.size 5 1 v xs.length (nums .u8 xs) ∧ Below w.heap.size w w'
theorem size_lt (x : Nat) : ∀ d ∈ size x, d < 256 := by
  unfold size
  intro d hd
  split at hd
  · simp at hd; omega
  · split at hd
    · rcases List.mem_cons.1 hd with rfl | hd
      · omega
      · exact be_lt _ _ d hd
    · split at hd
      · rcases List.mem_cons.1 hd with rfl | hd
        · omega
        · exact be_lt _ _ d hd
      · rcases List.mem_cons.1 hd with rfl | hd
        · omega
        · exact be_lt _ _ d hd

set_option maxHeartbeats 1000000 in
theorem size_walk (x : Nat) (hx : x < 18446744073709551616) (w : World) : Calls Try.prog 28 #[.int .u64 x] w (BytesRes w (size x)) := by
  have L := fun (d : Nat) => hid (own_lit .u8 w #[.int .u8 (d : Int)] 5 (B := w.heap.size) (n := 1) [d] rfl rfl (Nat.le_refl _) (by decide))
  have bb := fun (d : Int) => (Below.refl w.heap.size w).alloc (Nat.le_refl _) (.cells #[.int .u8 d] 5)
  have F := fun v w' xs (h1 : w'.ownsRow w.heap.size 5 1 v xs.length (nums .u8 xs)) (h2 : Below w.heap.size w w') => (⟨v, rfl, h1, h2⟩ : BytesRes w xs (.returned v) w')
  by_cases h1 : x < 253
  · have e : size x = [x] := by unfold size; rw [if_pos h1]
    rw [e]
    have FF := hid (F _ _ [x] (L x).out (bb x))
    clear F L bb e
    have t1 : decide ((x : Int) < 253) = true := by rw [decide_eq_true_eq]; omega
    have t2 : (x : Int) ≤ 252 := by omega
    clear h1
    go_enter Try.func28, Try.ntmps28
    go_wp2
    go_ret
    exact FF.out
  · by_cases h2 : x < 65536
    · have e : size x = [253] ++ be 2 x := by unfold size; rw [if_neg h1, if_pos h2]; rfl
      have E := hid e
      have b := bb 253
      have l := L 253
      clear bb L e
      have t1 : decide ((x : Int) < 253) = false := by rw [decide_eq_false_iff_not]; omega
      have t2 : decide ((x : Int) < 65536) = true := by rw [decide_eq_true_eq]; omega
      clear h1 h2
      have C := hid (big_walk w.heap.size _ [253] x 2 hx (by decide) (by simp) _ (by simp) l.out)
      go_enter Try.func28, Try.ntmps28
      go_wp2_with fail
      refine (C.out).mono ?_
      rintro e w1 ⟨v, rfl, hown, hb⟩
      have FF := hid (F v w1 _ hown (b.trans hb))
      clear F hown hb
      go_wp2
      go_ret
      rw [E.out]
      exact FF.out
    · by_cases h3 : x < 4294967296
      · have e : size x = [254] ++ be 4 x := by unfold size; rw [if_neg h1, if_neg h2, if_pos h3]; rfl
        have E := hid e
        have b := bb 254
        have l := L 254
        clear bb L e
        have t1 : decide ((x : Int) < 253) = false := by rw [decide_eq_false_iff_not]; omega
        have t2 : decide ((x : Int) < 65536) = false := by rw [decide_eq_false_iff_not]; omega
        have t3 : decide ((x : Int) < 4294967296) = true := by rw [decide_eq_true_eq]; omega
        clear h1 h2 h3
        have C := hid (big_walk w.heap.size _ [254] x 4 hx (by decide) (by simp) _ (by simp) l.out)
        go_enter Try.func28, Try.ntmps28
        go_wp2_with fail
        refine (C.out).mono ?_
        rintro e w1 ⟨v, rfl, hown, hb⟩
        have FF := hid (F v w1 _ hown (b.trans hb))
        clear F hown hb
        go_wp2
        go_ret
        rw [E.out]
        exact FF.out
      · have e : size x = [255] ++ be 8 x := by unfold size; rw [if_neg h1, if_neg h2, if_neg h3]; rfl
        have E := hid e
        have b := bb 255
        have l := L 255
        clear bb L e
        have t1 : decide ((x : Int) < 253) = false := by rw [decide_eq_false_iff_not]; omega
        have t2 : decide ((x : Int) < 65536) = false := by rw [decide_eq_false_iff_not]; omega
        have t3 : decide ((x : Int) < 4294967296) = false := by rw [decide_eq_false_iff_not]; omega
        clear h1 h2 h3
        have C := hid (big_walk w.heap.size _ [255] x 8 hx (by decide) (by simp) _ (by simp) l.out)
        go_enter Try.func28, Try.ntmps28
        go_wp2_with fail
        refine (C.out).mono ?_
        rintro e w1 ⟨v, rfl, hown, hb⟩
        have FF := hid (F v w1 _ hown (b.trans hb))
        clear F hown hb
        go_wp2
        go_ret
        rw [E.out]
        exact FF.out
end Go.Proofs.Ytgaidleepjkldaa

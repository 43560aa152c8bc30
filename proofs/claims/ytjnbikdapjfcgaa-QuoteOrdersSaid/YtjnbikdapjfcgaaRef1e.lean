/- The reference's numbers as digits: Num, Sub. -/
import Derived.Test.YtjnbikdapjfcgaaRef1d
namespace Go.Proofs.Ytjnbikdapjfcgaa
open Go.RowKit

/-- the answer of Num -/
def NumRes (w : World) (x : Nat) (e : Ending) (w' : World) : Prop :=
  e = .returned (.tuple #[.int .u64 ((if x < 18446744073709551616 then x else 0 : Nat) : Int), .bool (decide (x < 18446744073709551616))]) ∧ w = w'
theorem num_big {w : World} {x : Nat} {xs : List Nat} (hx : Dig xs x) (h : 8 < xs.length) : NumRes w x (.returned (.tuple #[.int .u64 0, .bool false])) w := by
  have h1 := hx.ge (by omega)
  have h2 : 256 ^ 8 ≤ 256 ^ (xs.length - 1) := pow256_le (by omega)
  have h3 : ¬ x < 18446744073709551616 := by omega
  exact ⟨by simp [h3], rfl⟩
theorem num_small {w : World} {x : Nat} {xs : List Nat} (hx : Dig xs x) (h : xs.length ≤ 8) {z : Int} (hz : z = (val xs : Int)) : NumRes w x (.returned (.tuple #[.int .u64 z, .bool true])) w := by
  have h1 := hx.lt
  have h2 : 256 ^ xs.length ≤ 256 ^ 8 := pow256_le h
  have h3 : x < 18446744073709551616 := by omega
  rw [hx.1] at hz
  subst hz
  exact ⟨by simp [h3], rfl⟩
theorem num_step {xs : List Nat} {n j : Nat} (h : Dg xs) (hl : xs.length = n) (hn : n ≤ 8) (hj : j < n) :
    val (xs.drop j) = xs.getD j 0 + 256 * val (xs.drop (j + 1)) ∧ 256 * val (xs.drop (j + 1)) < 18446744073709551616 ∧ xs.getD j 0 + 256 * val (xs.drop (j + 1)) < 18446744073709551616 := by
  have e : val (xs.drop j) = xs.getD j 0 + 256 * val (xs.drop (j + 1)) := by rw [drop_eq_cons (by omega)]; rfl
  have h1 := val_drop_lt h j
  have h2 : 256 ^ (xs.length - j) ≤ 256 ^ 8 := pow256_le (by omega)
  omega

set_option maxHeartbeats 1000000 in
theorem num_walk (a : Option Addr) (n cap x : Nat) (xs : List Nat) (w : World) (h : Sl .i64 w a n cap xs) (hx : Dig xs x) (hn : n ≤ 4294967296) :
    Calls Try.prog 26 #[.slice a n cap] w (NumRes w x) := by
  have HL := hid h.len
  have gx := hx.2.1
  obtain ⟨b, off, ha, hc⟩ := h.opened
  by_cases h8 : 8 < n
  · have fin := num_big (w := w) hx (by rw [HL.out]; exact h8)
    have FIN := hid fin; clear fin
    go_enter Try.func26, Try.ntmps26
    go_wp2
    go_ret2
    exact FIN.out
  · have fin := fun (z : Int) (hz : z = (val xs : Int)) => num_small (w := w) hx (by rw [HL.out]; omega) hz
    have stp := fun j hj => num_step gx HL.out (by omega) (j := j) hj
    have FIN := hid fin; clear fin
    clear h gx hx
    go_enter Try.func26, Try.ntmps26
    go_wp2
    go_loop [4, 5] (fun x0 i0 => ∃ (k v : Nat), k ≤ n ∧ i0 = .int .i64 ((k : Int) - 1) ∧ x0 = .int .u64 v ∧ Hid (v = val (xs.drop k))) (fun _ i0 => (intOf i0 + 1).toNat)
    case atStart => exact ⟨n, 0, by omega, rfl, rfl, hid (by rw [List.drop_of_length_le (by rw [HL.out]; omega)]; rfl)⟩
    case round =>
      obtain ⟨k, v, hk, rfl, rfl, hv⟩ := hrel
      by_cases h0 : 0 < k
      · obtain ⟨j, rfl⟩ : ∃ j, k = j + 1 := ⟨k - 1, by omega⟩
        obtain rfl := ha (by omega)
        have hcx := hc j (by omega)
        obtain ⟨e1, e2, e3⟩ := stp j (by omega)
        rw [← hv.out] at e1 e2 e3
        generalize hd : xs.getD j 0 = d at *
        have E1 := hid e1
        clear e1 hd hc stp
        have ej : (((j + 1 : Nat) : Int) - 1) = (j : Int) := by omega
        rw [ej]
        clear ej
        go_wp2
        go_round
        case rel => exact ⟨j, d + 256 * v, by omega, rfl, by go_num, hid E1.out.symm⟩
        case measure => simp [intOf]
      · obtain rfl : k = 0 := by omega
        go_wp2
        go_ret2
        exact FIN.out _ (by rw [hv.out]; rfl)

set_option maxHeartbeats 1000000 in
theorem sub_walk (a a' : Option Addr) (n m cap cap' x y : Nat) (xs ys : List Nat) (hn : n ≤ 1048576) (hm : m ≤ 1048576) (w : World) (h : Sl .i64 w a n cap xs) (hx : Dig xs x) (h' : Sl .i64 w a' m cap' ys) (hy : Dig ys y) (hle : y ≤ x) :
    Calls Try.prog 31 #[.slice a n cap, .slice a' m cap'] w (ResD w (x - y)) := by
  have gx := hx.2.1
  have gy := hy.2.1
  have hl : xs.length ≤ n := Nat.le_of_eq h.len
  have hl' : ys.length ≤ m := Nat.le_of_eq h'.len
  have hl2 : n ≤ xs.length := Nat.le_of_eq h.len.symm
  have hl2' : m ≤ ys.length := Nat.le_of_eq h'.len.symm
  have hmn : m ≤ n := by
    apply Nat.le_of_not_lt; intro hlt
    have := hx.len_mono hy (by omega)
    omega
  go_enter Try.func31, Try.ntmps31
  go_wp2
  go_loopw [5, 6, 12] (fun v c0 i0 wr => ∃ (k c : Nat) (os : List Nat), k ≤ n ∧ i0 = .int .i64 k ∧ c0 = .int .i64 c ∧ SubSt xs ys os k c ∧ wr.ownsRow w.heap.size 3 1 v os.length (nums .i64 os) ∧ Below w.heap.size w wr) (fun _ _ i0 _ => n - (intOf i0).toNat)
  case atStart => exact ⟨0, 0, [], by omega, rfl, rfl, SubSt.nil xs ys, World.ownsRow_made _ _ _ (by simp) (by simp) (by simp), (Below.refl _ _).alloc (by simp) _⟩
  case round =>
    obtain ⟨k, c, os, hk, rfl, rfl, S, hown, hb⟩ := hrel
    have hB := hb.size
    have S3 : c ≤ 1 := S.2.2.1
    have hol : os.length < 4294967296 := by have := S.1; omega
    by_cases hlt : k < n
    · have SS := hid (S.step gx gy)
      obtain ⟨b, off, ha, hc⟩ := (h.below hb).opened
      obtain ⟨b', off', ha', hc'⟩ := (h'.below hb).opened
      have hcx := hc k hlt
      have hcy := hc' k
      obtain rfl := ha (by omega)
      have dx := getD_lt gx k
      have dy := getD_lt gy k
      have oy : ¬ k < m → ys.getD k 0 = 0 := fun hk => getD_out (by omega)
      generalize xs.getD k 0 = d at *
      generalize ys.getD k 0 = e at *
      clear hc hc' gx gy S ha
      by_cases h2 : k < m
      · obtain rfl := ha' (by omega)
        have hcy := hcy h2
        clear ha' oy
        by_cases h3 : d < e + c
        · go_wp2_with (at_builtin; refine wpList_push rfl _ _ 28 rfl tyD w.heap.size hown rfl rfl rfl rfl hol (by decide) hB ?_)
          intro v' w1 hown' hb' _ _
          go_wp2
          go_roundw
          case rel => exact ⟨k + 1, subOwe d e c, os ++ [subDig d e c], by omega, by go_num, by simp [subOwe, h3], SS.out, own_snoc hown' (by simp [subDig, h3]; omega), hb.trans hb'⟩
          case measure => simp [intOf]; omega
        · go_wp2_with (at_builtin; refine wpList_push rfl _ _ 28 rfl tyD w.heap.size hown rfl rfl rfl rfl hol (by decide) hB ?_)
          intro v' w1 hown' hb' _ _
          go_wp2
          go_roundw
          case rel => exact ⟨k + 1, subOwe d e c, os ++ [subDig d e c], by omega, by go_num, by simp [subOwe, h3], SS.out, own_snoc hown' (by simp [subDig, h3]; omega), hb.trans hb'⟩
          case measure => simp [intOf]; omega
      · obtain rfl := oy h2
        clear hcy ha'
        by_cases h3 : d < 0 + c
        · go_wp2_with (at_builtin; refine wpList_push rfl _ _ 28 rfl tyD w.heap.size hown rfl rfl rfl rfl hol (by decide) hB ?_)
          intro v' w1 hown' hb' _ _
          go_wp2
          go_roundw
          case rel => exact ⟨k + 1, subOwe d 0 c, os ++ [subDig d 0 c], by omega, by go_num, by unfold subOwe; rw [if_pos h3]; rfl, SS.out, own_snoc hown' (by unfold subDig; rw [if_pos h3]; omega), hb.trans hb'⟩
          case measure => simp [intOf]; omega
        · go_wp2_with (at_builtin; refine wpList_push rfl _ _ 28 rfl tyD w.heap.size hown rfl rfl rfl rfl hol (by decide) hB ?_)
          intro v' w1 hown' hb' _ _
          go_wp2
          go_roundw
          case rel => exact ⟨k + 1, subOwe d 0 c, os ++ [subDig d 0 c], by omega, by go_num, by unfold subOwe; rw [if_neg h3]; rfl, SS.out, own_snoc hown' (by unfold subDig; rw [if_neg h3]; omega), hb.trans hb'⟩
          case measure => simp [intOf]; omega
    · obtain rfl : n = k := by omega
      have fin := hid (S.fin (by omega) (by omega) (by rw [hx.1, hy.1]; exact hle))
      have hv := SlV.of_owns hown
      have ho := S.2.1
      obtain ⟨a1, cap1, rfl, h3⟩ := hv
      go_wp2_with fail
      refine (trim_walk a1 _ cap1 os _ h3 ho).mono ?_
      rintro e w' ⟨⟨v, ys', rfl, hd, hsl⟩, rfl⟩
      rw [fin.out, hx.1, hy.1] at hd
      go_wp2
      go_ret
      exact ⟨_, ys', rfl, hd, hsl, hb⟩
theorem cmp_le (x y : Nat) : decide (cmpI x y ≤ 0) = decide (x ≤ y) := by
  unfold cmpI
  rw [decide_eq_decide]
  split
  · constructor <;> intro <;> omega
  · split <;> constructor <;> intro <;> omega
theorem Dig.len8 {xs : List Nat} {x : Nat} (h : Dig xs x) (hx : x < 18446744073709551616) : xs.length ≤ 8 := h.len_le (by omega)
theorem Dig.len16 {xs : List Nat} {x : Nat} (h : Dig xs x) (hx : x < 18446744073709551616 * 18446744073709551616) : xs.length ≤ 16 := h.len_le (by omega)
theorem mul_lt128 {x y : Nat} (hx : x < 18446744073709551616) (hy : y < 18446744073709551616) : x * y < 18446744073709551616 * 18446744073709551616 := Nat.mul_lt_mul_of_lt_of_lt hx hy

end Go.Proofs.Ytjnbikdapjfcgaa

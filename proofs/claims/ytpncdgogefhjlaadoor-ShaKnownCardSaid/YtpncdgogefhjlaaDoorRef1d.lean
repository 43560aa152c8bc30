/- The reference's numbers as digits: Mul. -/
import Derived.Test.YtpncdgogefhjlaaDoorRef1c
import Derived.RegionTactic
import Derived.BigRegion
namespace Go.Proofs.YtpncdgogefhjlaaDoor
open Go.RowKit

theorem mul_start {n m : Nat} {xs ys : List Nat} (h : xs.length = n) (h' : ys.length = m) : MulSt xs ys (List.replicate (n + m + 4) 0) 0 0 := by
  subst h h'; exact MulSt.start xs ys
theorem mul_len {xs ys os : List Nat} {n m i k : Nat} (S : MulSt xs ys os i k) (h : xs.length = n) (h' : ys.length = m) : os.length = n + m + 4 := by
  subst h h'; exact S.1
theorem MulSt.le {xs ys os : List Nat} {n m i k : Nat} (S : MulSt xs ys os i k) (_ : xs.length ≤ n) (h' : ys.length ≤ m) (hn : n ≤ 1048576) (hm : m ≤ 1048576) (hi : i ≤ n) (hk : k ≤ m) : os.getD (i + k) 0 ≤ 72127962782105600 := by
  have h1 := getD_le S.2.2 (i + k)
  have h2 : i * ys.length ≤ 1048576 * 1048576 := Nat.mul_le_mul (by omega) (by omega)
  omega

theorem mul_next {xs ys os : List Nat} {i m : Nat} (S : MulSt xs ys os i m) (h : ys.length = m) : MulSt xs ys os (i + 1) 0 := by subst h; exact S.next
theorem mul_car {xs ys os : List Nat} {n m : Nat} (S : MulSt xs ys os n 0) (h : xs.length = n) (h' : ys.length = m) (hn : n ≤ 1048576) (hm : m ≤ 1048576) : CarSt (n + m + 4) (val xs * val ys) os 0 0 72057594037927936 := by
  subst h h'; exact S.car hn hm
theorem mul_lim {xs ys : List Nat} {n m : Nat} (gx : Dg xs) (gy : Dg ys) (h : xs.length = n) (h' : ys.length = m) : val xs * val ys < 256 ^ (n + m + 4) := by
  subst h h'; exact mul_lt_pow gx gy
theorem digit_mul {d e : Nat} (h : d < 256) (k : e < 256) : 0 ≤ (d : Int) * (e : Int) ∧ (d : Int) * (e : Int) ≤ 65025 := by
  have h1 : d * e ≤ 255 * 255 := Nat.mul_le_mul (by omega) (by omega)
  rw [← Int.natCast_mul]
  omega

set_option maxHeartbeats 1000000 in
theorem mul_walk (a a' : Option Addr) (n m cap cap' x y : Nat) (xs ys : List Nat) (hn : n ≤ 1048576) (hm : m ≤ 1048576) (w : World) (h : Sl .i64 w a n cap xs) (hx : Dig xs x) (h' : Sl .i64 w a' m cap' ys) (hy : Dig ys y) :
    Calls Tryd.prog 29 #[.slice a n cap, .slice a' m cap'] w (ResD w (x * y)) := by
  have gx := hx.2.1
  have gy := hy.2.1
  have hl : xs.length ≤ n := Nat.le_of_eq h.len
  have hl' : ys.length ≤ m := Nat.le_of_eq h'.len
  have hl2 : n ≤ xs.length := Nat.le_of_eq h.len.symm
  have hl2' : m ≤ ys.length := Nat.le_of_eq h'.len.symm
  go_enter Tryd.func29, Tryd.ntmps29
  go_wp2_with (at_make; refine wpList_mk rfl (.tmp 15) (.tmp 15) 79 rfl tyD rfl w.heap.size (n + m + 4) rfl rfl (by omega) (by omega) (by omega) (by decide) (Nat.le_refl _) ?_)
  intro w0 hown0 hb0 hs0
  rw [← nums_replicate] at hown0
  go_wp2
  go_loopw [19] (fun i0 wr => ∃ (i : Nat) (os : List Nat), i ≤ n ∧ i0 = .int .i64 i ∧ MulSt xs ys os i 0 ∧ wr.ownsRow w.heap.size 3 1 (.slice (some ⟨w.heap.size, 0, none⟩) (n + m + 4) (n + m + 4)) (n + m + 4) (nums .i64 os) ∧ Below w.heap.size w wr) (fun i0 _ => n - (intOf i0).toNat)
  case atStart => exact ⟨0, _, by omega, rfl, mul_start h.len h'.len, hown0, hb0⟩
  case round =>
    obtain ⟨i, os, hi, rfl, S, hown, hb⟩ := hrel
    by_cases hlt : i < n
    · go_wp2
      go_loopw [24] (fun k0 wr => ∃ (k : Nat) (os : List Nat), k ≤ m ∧ k0 = .int .i64 k ∧ MulSt xs ys os i k ∧ wr.ownsRow w.heap.size 3 1 (.slice (some ⟨w.heap.size, 0, none⟩) (n + m + 4) (n + m + 4)) (n + m + 4) (nums .i64 os) ∧ Below w.heap.size w wr) (fun k0 _ => m - (intOf k0).toNat)
      case atStart => exact ⟨0, _, by omega, rfl, S, hown, hb⟩
      case round =>
        clear S hown hb os
        obtain ⟨k, os, hk, rfl, S, hown, hb⟩ := hrel
        by_cases hlk : k < m
        · have SS := hid (S.step gx gy (by omega) (by omega))
          have hg := S.le hl hl' hn hm hi hk
          have hoc := own_cell hown (i + k) (by omega)
          have hof := hown.frozenAt (i + k)
          obtain ⟨b, off, ha, hc⟩ := (h.below hb).opened
          obtain ⟨b', off', ha', hc'⟩ := (h'.below hb).opened
          obtain rfl := ha (by omega)
          obtain rfl := ha' (by omega)
          have hcx := hc i hlt
          have hcy := hc' k hlk
          have dx := getD_lt gx i
          have dy := getD_lt gy k
          clear ha ha' hc hc'
          have hst := fun (z : Int) (d : Nat) (hz : z = (d : Int)) => own_store hown (i + k) hz
          have hbs := hb.size
          generalize hd : xs.getD i 0 = d at *
          generalize he : ys.getD k 0 = e at *
          generalize ho : os.getD (i + k) 0 = t at *
          obtain ⟨hp0, hp1⟩ := digit_mul dx dy
          have HST := hid hst
          clear hst S gx gy h h' hx hy hd he ho hown
          go_wp2
          go_region
          go_wp2
          have hs := HST.out ((t : Int) + (d : Int) * (e : Int)) (t + d * e) (by rw [Int.natCast_add, Int.natCast_mul])
          go_roundw
          case rel => exact ⟨k + 1, _, by omega, by go_num, SS.out, hs.1.drew, hb.trans hs.2.drew⟩
          case measure => simp [intOf]; omega
        · obtain rfl : k = m := by omega
          have S2 := mul_next S h'.len
          go_wp2
          go_roundw
          case rel => exact ⟨i + 1, _, by omega, by go_num, S2, hown, hb⟩
          case measure => simp [intOf]; omega
    · obtain rfl : n = i := by omega
      have S2 := mul_car S h.len h'.len hn hm
      have hlim := hid (mul_lim gx gy h.len h'.len)
      clear S h h' hl hl' hl2 hl2' 
      go_wp2
      go_loopw [8, 48] (fun c0 k0 wr => ∃ (k c : Nat) (os : List Nat), k ≤ n + m + 4 ∧ k0 = .int .i64 k ∧ c0 = .int .i64 c ∧ CarSt (n + m + 4) (val xs * val ys) os k c 72057594037927936 ∧ wr.ownsRow w.heap.size 3 1 (.slice (some ⟨w.heap.size, 0, none⟩) (n + m + 4) (n + m + 4)) (n + m + 4) (nums .i64 os) ∧ Below w.heap.size w wr) (fun _ k0 _ => n + m + 4 - (intOf k0).toNat)
      case atStart => exact ⟨0, 0, os, by omega, rfl, rfl, S2, hown, hb⟩
      case round =>
        clear S2 hown hb os
        obtain ⟨k, c, os, hk, rfl, rfl, S, hown, hb⟩ := hrel
        by_cases hlk : k < n + m + 4
        · have SS := hid (S.step hlk (by decide))
          have hoc := own_cell hown k hlk
          have hof := hown.frozenAt k
          have hg := getD_le S.2.2.2.2 k
          have hc := S.2.2.2.1
          have hst := fun (z : Int) (d : Nat) (hz : z = (d : Int)) => own_store hown k hz
          generalize ho : os.getD k 0 = t at *
          have HST := hid hst
          clear hst S gx gy hx hy ho hown
          go_wp2
          have hs := HST.out (((c : Int) + t) % 256) ((c + t) % 256) (by omega)
          go_roundw
          case rel => exact ⟨k + 1, (c + t) / 256, _, by omega, by go_num, by go_num, SS.out, hs.1, hb.trans hs.2⟩
          case measure => simp [intOf]; omega
        · obtain rfl : k = n + m + 4 := by omega
          have hf := S.fin hlim.out
          clear S
          have hsl : Sl .i64 wr (some ⟨w.heap.size, 0, none⟩) (n + m + 4) (n + m + 4) os := sl_of_own hown
          go_wp2_with fail
          refine (trim_walk _ (n + m + 4) (n + m + 4) os _ hsl hf.2).mono ?_
          rintro e w' ⟨⟨v, ys', rfl, hd, hsl⟩, rfl⟩
          rw [hf.1, hx.1, hy.1] at hd
          go_wp2
          go_ret
          exact ⟨_, ys', rfl, hd, hsl, hb⟩
end Go.Proofs.YtpncdgogefhjlaaDoor

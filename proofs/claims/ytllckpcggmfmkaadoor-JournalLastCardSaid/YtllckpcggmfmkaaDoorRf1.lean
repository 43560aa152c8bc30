/- The reference's numbers as digits: Of. The reference's numbers as digits: Cmp. The reference's numbers as digits: Add. The reference's numbers as digits: Mul. -/
import Derived.Test.YtllckpcggmfmkaaDoorDig
import Derived.Test.YtllckpcggmfmkaaDoorMem
import Derived.RegionTactic
import Derived.BigRegion
namespace Go.Proofs.YtllckpcggmfmkaaDoor
open Go.RowKit

theorem infoInt : (Tryd.prog.info? 3).map (fun i => (i.zero, i.size, i.bytes)) = some (some (.int .i64 0), 1, 8) := by kernel_rfl
theorem tyD : SliceTy Tryd.prog 75 3 1 8 (.int .i64 0) := .mk' Tryd.underlying75 infoInt rfl (by decide)
/-- the value of a result: a new slice that holds x's digits -/
def ResD (w : World) (x : Nat) (e : Ending) (w' : World) : Prop := ∃ v xs, e = .returned v ∧ Dig xs x ∧ SlV .i64 w' v xs ∧ Below w.heap.size w w'


/-- an old slice that holds x's digits; the world is as it was -/
def RdD (w : World) (x : Nat) (e : Ending) (w' : World) : Prop := (∃ v ys, e = .returned v ∧ Dig ys x ∧ SlV .i64 w v ys) ∧ w = w'

def OfRel (_B x : Nat) (k : Nat) (xs : List Nat) : Prop :=
  k ≤ x ∧ val xs + 256 ^ xs.length * k = x ∧ Dg xs ∧ (xs = [] ∨ 256 ^ (xs.length - 1) ≤ x) ∧ (∀ ys d, xs = ys ++ [d] → k = 0 → d ≠ 0)
theorem OfRel.step {B x k : Nat} {xs : List Nat} (h : OfRel B x k xs) (hk : 0 < k) : OfRel B x (k / 256) (xs ++ [k % 256]) := by
  obtain ⟨h0, h1, h2, h3, h4⟩ := h
  refine ⟨by omega, Dig_of_step x k h1, Dg_snoc h2 (by omega), .inr ?_, ?_⟩
  · simp
    have : 256 ^ xs.length * 1 ≤ 256 ^ xs.length * k := Nat.mul_le_mul_left _ hk
    omega
  · intro ys d he hz
    have := List.append_inj' he rfl
    simp at this
    omega
theorem OfRel.fin {B x : Nat} {xs : List Nat} (h : OfRel B x 0 xs) : Dig xs x := by
  obtain ⟨_, h1, h2, _, h4⟩ := h
  exact ⟨by simpa using h1, h2, fun ys d he => h4 ys d he rfl⟩
theorem OfRel.len {B x k : Nat} {xs : List Nat} (h : OfRel B x k xs) (hx : x < 18446744073709551616) : xs.length ≤ 8 := by
  obtain ⟨_, _, _, h3, _⟩ := h
  rcases h3 with rfl | h3
  · simp
  · apply Nat.le_of_not_lt; intro hl
    have : 256 ^ 8 ≤ 256 ^ (xs.length - 1) := pow256_le (by omega)
    omega

set_option maxHeartbeats 400000 in
theorem of_walk (x : Nat) (hx : x < 18446744073709551616) (w : World) :
    Calls Tryd.prog 35 #[.int .u64 x] w (ResD w x) := by
  go_enter Tryd.func35, Tryd.ntmps35
  go_wp2
  go_loopw [0, 3] (fun x0 v wr => ∃ (k : Nat) (xs : List Nat), x0 = .int .u64 k ∧ OfRel 0 x k xs ∧ wr.ownsRow w.heap.size 3 1 v xs.length (nums .i64 xs) ∧ Below w.heap.size w wr) (fun x0 _ _ => (intOf x0).toNat)
  case atStart => exact ⟨x, [], rfl, ⟨by omega, by simp [val], by simp [Dg], by simp, by simp⟩, World.ownsRow_made _ _ _ (by simp) (by simp) (by simp), (Below.refl _ _).alloc (by simp) _⟩
  case round =>
    obtain ⟨k, xs, rfl, R, hown, hb⟩ := hrel
    have hB := hb.size
    have hl := R.len hx
    by_cases hk : 0 < k
    · have hkx : k ≤ x := R.1
      go_wp2_with (at_builtin; refine wpList_push rfl _ _ 75 rfl tyD w.heap.size hown rfl rfl rfl rfl ?c2 (by decide) hB ?_)
      case c2 => omega
      intro v' w1 hown' hb' _ _
      go_wp2
      go_roundw
      case rel => exact ⟨k / 256, xs ++ [k % 256], rfl, R.step hk, own_snoc hown' (by omega), hb.trans hb'⟩
      case measure => simp [intOf]; omega
    · go_wp2
      go_ret
      obtain rfl : k = 0 := by omega
      exact ⟨_, xs, rfl, R.fin, SlV.of_owns hown, hb⟩

theorem take_step {xs : List Nat} {n k d : Nat} (hd : d = xs.getD (k - 1) 0) (hl : xs.length = n) (hk : k ≤ n) (h0 : 0 < k) : xs.take k = xs.take (k - 1) ++ [d] := by
  obtain ⟨j, rfl⟩ : ∃ j, k = j + 1 := ⟨k - 1, by omega⟩
  rw [List.take_succ_eq_append_getElem (by omega)]
  simp at hd
  rw [List.getElem?_eq_getElem (by omega)] at hd
  simp [hd]
theorem trim_step {xs : List Nat} {n k : Nat} (hd : 0 = xs.getD (k - 1) 0) (hl : xs.length = n) (hk : k ≤ n) (h0 : 0 < k) (hv : Hid (val (xs.take k) = val xs)) : Hid (val (xs.take (k - 1)) = val xs) := by
  have h := hv.out
  rw [take_step hd hl hk h0, val_snoc] at h
  exact hid (by omega)
theorem trim_end {xs : List Nat} {n k d : Nat} (hd : d = xs.getD (k - 1) 0) (hl : xs.length = n) (hk : k ≤ n) (h0 : 0 < k) (hz : ¬ d = 0) (hv : Hid (val (xs.take k) = val xs)) (hg : Dg xs) : Dig (xs.take k) (val xs) := by
  refine ⟨hv.out, Dg_take hg k, fun ys e he => ?_⟩
  rw [take_step hd hl hk h0] at he
  have := List.append_inj' he rfl
  simp at this
  omega
theorem trim_nil {xs : List Nat} (hv : Hid (val (xs.take 0) = val xs)) : Dig [] (val xs) := by
  rw [← hv.out]; exact Dig.nil
set_option maxHeartbeats 400000 in
theorem trim_walk (a : Option Addr) (n cap : Nat) (xs : List Nat) (w : World) (h : Sl .i64 w a n cap xs) (hd : Dg xs) :
    Calls Tryd.prog 43 #[.slice a n cap] w (RdD w (val xs)) := by
  have HS := hid h
  have HL := hid h.len
  have hcap := h.2.1
  have hm' : cap ≤ 9223372036854775807 := by have h2 := h.2.2.1; unfold maxLen at h2; omega
  obtain ⟨b, off, ha, hc⟩ := h.opened
  go_enter Tryd.func43, Tryd.ntmps43
  go_wp2
  go_loop [0] (fun v => ∃ k : Nat, k ≤ n ∧ v = .slice a k cap ∧ Hid (val (xs.take k) = val xs)) (fun v => match v with | .slice _ k _ => k | _ => 0)
  case atStart => exact ⟨n, by omega, rfl, by rw [← HL.out, List.take_length]; rfl⟩
  case round =>
    obtain ⟨k, hk, rfl, hv⟩ := hrel
    by_cases h0 : 0 < k
    · obtain rfl := ha (by omega)
      obtain ⟨d, hdd⟩ : ∃ d, d = xs.getD (k - 1) 0 := ⟨_, rfl⟩
      have hcell := hc (k - 1) (by omega)
      rw [← hdd] at hcell
      have HD := hid hdd; clear hdd hc
      have hk1 : ((k : Int) - 1).toNat = k - 1 := by omega
      by_cases hz : d = 0
      · subst hz
        go_wp2
        go_round
        case rel => exact ⟨k - 1, by omega, rfl, trim_step HD.out HL.out (by omega) h0 hv⟩
        case measure => simp; omega
      · have hz' : ((d : Int) == 0) = false := by simp; omega
        go_wp2
        go_ret
        exact ⟨⟨_, xs.take k, rfl, trim_end HD.out HL.out hk h0 hz hv hd, (HS.out.take hk).toV⟩, rfl⟩
    · obtain rfl : k = 0 := by omega
      go_wp2
      go_ret
      exact ⟨⟨_, [], rfl, trim_nil hv, (Sl.nilS _ _ HS.out.2.2.1 HS.out.2.2.2.1).toV⟩, rfl⟩
end Go.Proofs.YtllckpcggmfmkaaDoor
namespace Go.Proofs.YtllckpcggmfmkaaDoor
open Go.RowKit

/-- a number; the world is as it was, but for draws -/
def IntQ (w : World) (r : Int) (e : Ending) (w' : World) : Prop := e = .returned (.int .i64 r) ∧ Qt w w'

theorem cmp_fin {xs ys : List Nat} {n x y j d d' : Nat} (hx : Dig xs x) (hy : Dig ys y) (hl : xs.length = n) (hl' : ys.length = n) (hj : (j : Int) < n) (hd : d = xs.getD j 0) (hd' : d' = ys.getD j 0)
    (he : Hid (Hid (xs.drop ((j : Int) + 1).toNat = ys.drop ((j : Int) + 1).toNat))) :
    Hid (d < d' → cmpI x y = -1) ∧ Hid (((d : Int) != (d' : Int)) = true → ¬ d < d' → cmpI x y = 1) ∧ Hid (((d : Int) != (d' : Int)) = false → xs.drop ((j : Int) - 1 + 1).toNat = ys.drop ((j : Int) - 1 + 1).toNat) := by
  have he' := he.out.out
  rw [show ((j : Int) + 1).toNat = j + 1 from by omega] at he'
  obtain ⟨rfl, gx, _⟩ := hx
  obtain ⟨rfl, gy, _⟩ := hy
  subst hd hd'
  refine ⟨fun h => cmpI_lt (val_lt_at gx (by omega) (by omega) he' h), fun h1 h2 => cmpI_gt (val_lt_at gy (by omega) (by omega) he'.symm (by simp only [bne_iff_ne] at h1; omega)), fun h => ?_⟩
  simp only [bne_eq_false_iff_eq] at h
  have h := Int.ofNat.inj h
  rw [show ((j : Int) - 1 + 1).toNat = j from by omega, drop_eq_cons (by omega), drop_eq_cons (xs := ys) (by omega), h, he']
theorem cmp_same {xs ys : List Nat} {x y : Nat} (hx : Dig xs x) (hy : Dig ys y) (he : xs.drop ((-1 : Int) + 1).toNat = ys.drop ((-1 : Int) + 1).toNat) : cmpI x y = 0 := by
  simp at he
  subst he
  rw [← hx.1, ← hy.1]
  exact cmpI_eq _

set_option maxHeartbeats 400000 in
theorem cmp_walk (a a' : Option Addr) (n m cap cap' x y : Nat) (xs ys : List Nat) (hn : n ≤ 4294967296) (hm : m ≤ 4294967296) (w : World) (h : Sl .i64 w a n cap xs) (hx : Dig xs x) (h' : Sl .i64 w a' m cap' ys) (hy : Dig ys y) :
    Calls Tryd.prog 37 #[.slice a n cap, .slice a' m cap'] w (IntQ w (cmpI x y)) := by
  have HL := hid h.len
  have HL' := hid h'.len
  obtain ⟨b, off, ha, hc⟩ := h.opened
  obtain ⟨b', off', ha', hc'⟩ := h'.opened
  clear h h'
  by_cases h1 : n < m
  · have hlt : cmpI x y = -1 := cmpI_lt (hx.len_mono hy (by rw [HL.out, HL'.out]; exact h1))
    rw [hlt]
    go_enter Tryd.func37, Tryd.ntmps37
    go_wp2
    go_ret
    exact ⟨rfl, Qt.refl _⟩
  by_cases h2 : m < n
  · have hlt : cmpI x y = 1 := cmpI_gt (hy.len_mono hx (by rw [HL.out, HL'.out]; exact h2))
    rw [hlt]
    go_enter Tryd.func37, Tryd.ntmps37
    go_wp2
    go_ret
    exact ⟨rfl, Qt.refl _⟩
  obtain rfl : n = m := by omega
  go_enter Tryd.func37, Tryd.ntmps37
  go_wp2
  go_loopw [5] (fun v wr => ∃ i : Int, -1 ≤ i ∧ i < n ∧ v = .int .i64 i ∧ Hid (xs.drop (i + 1).toNat = ys.drop (i + 1).toNat) ∧ Qt w wr) (fun v _ => (intOf v + 1).toNat)
  case atStart => exact ⟨(n : Int) - 1, by omega, by omega, rfl, hid (by rw [List.drop_of_length_le (by rw [HL.out]; omega), List.drop_of_length_le (by rw [HL'.out]; omega)]), Qt.refl _⟩
  case round =>
    obtain ⟨i, hi1, hi2, rfl, hdr, q, rfl⟩ := hrel
    have hq : Qt w (w.drewN q) := ⟨q, rfl⟩
    by_cases hi : 0 ≤ i
    · obtain ⟨j, rfl⟩ := Int.eq_ofNat_of_zero_le hi
      obtain rfl := ha (by omega)
      obtain rfl := ha' (by omega)
      have hcx := hc j (by omega)
      have hcy := hc' j (by omega)
      obtain ⟨d, hd⟩ : ∃ d, d = xs.getD j 0 := ⟨_, rfl⟩
      obtain ⟨d', hd'⟩ : ∃ d, d = ys.getD j 0 := ⟨_, rfl⟩
      rw [← hd] at hcx
      rw [← hd'] at hcy
      have HD := hid hd; clear hd hc
      have HD' := hid hd'; clear hd' hc'
      have fin := cmp_fin hx hy HL.out HL'.out hi2 HD.out HD'.out (hid hdr)
      go_wp2
      go_quiet (fail)
      go_wp2
      · go_quiet (fail)
        go_wp2
        · go_ret
          rw [fin.1.out ‹_›]
          exact ⟨rfl, (hq.dN _).dN _⟩
        · go_ret
          rw [fin.2.1.out ‹_› ‹_›]
          exact ⟨rfl, (hq.dN _).dN _⟩
      · go_roundw
        case rel => exact ⟨(j : Int) - 1, by omega, by omega, rfl, hid (fin.2.2.out ‹_›), _, rfl⟩
        case measure => simp [intOf]
    · obtain rfl : i = -1 := by omega
      go_wp2
      go_ret
      rw [cmp_same hx hy hdr.out]
      exact ⟨rfl, hq⟩
end Go.Proofs.YtllckpcggmfmkaaDoor
namespace Go.Proofs.YtllckpcggmfmkaaDoor
open Go.RowKit

end Go.Proofs.YtllckpcggmfmkaaDoor
namespace Go.Proofs.YtllckpcggmfmkaaDoor
open Go.RowKit

theorem mul_start {n m : Nat} {xs ys : List Nat} (h : xs.length = n) (h' : ys.length = m) : MulSt xs ys (List.replicate (n + m + 4) 0) 0 0 := by
  subst h h'; exact MulSt.start xs ys
theorem mul_len {xs ys os : List Nat} {n m i k : Nat} (S : MulSt xs ys os i k) (h : xs.length = n) (h' : ys.length = m) : os.length = n + m + 4 := by
  subst h h'; exact S.1
theorem MulSt.le {xs ys os : List Nat} {n m i k : Nat} (S : MulSt xs ys os i k) (_ : xs.length ≤ n) (h' : ys.length ≤ m) (hn : n ≤ 1048576) (hm : m ≤ 1048576) (hi : i ≤ n) (hk : k ≤ m) : os.getD (i + k) 0 ≤ 72127962782105600 := by
  have h1 := getD_le S.2.2 (i + k)
  have h2 : i * ys.length ≤ 1048576 * 1048576 := Nat.mul_le_mul (by omega) (by omega)
  omega

theorem mul_next {xs ys os : List Nat} {i m : Nat} (S : MulSt xs ys os i m) (h : ys.length = m) : MulSt xs ys os (i + 1) 0 := by subst h; exact S.next
theorem mul_car {xs ys os : List Nat} {n m : Nat} (S : MulSt xs ys os n 0) (h : xs.length = n) (h' : ys.length = m) (hn : n ≤ 1048576) (hm : m ≤ 1048576) : CarSt (n + m + 4) (val xs * val ys) os 0 0 72057594037927936 := by
  subst h h'; exact S.car hn hm
theorem mul_lim {xs ys : List Nat} {n m : Nat} (gx : Dg xs) (gy : Dg ys) (h : xs.length = n) (h' : ys.length = m) : val xs * val ys < 256 ^ (n + m + 4) := by
  subst h h'; exact mul_lt_pow gx gy
theorem digit_mul {d e : Nat} (h : d < 256) (k : e < 256) : 0 ≤ (d : Int) * (e : Int) ∧ (d : Int) * (e : Int) ≤ 65025 := by
  have h1 : d * e ≤ 255 * 255 := Nat.mul_le_mul (by omega) (by omega)
  rw [← Int.natCast_mul]
  omega

set_option maxHeartbeats 1000000 in
theorem mul_walk (a a' : Option Addr) (n m cap cap' x y : Nat) (xs ys : List Nat) (hn : n ≤ 1048576) (hm : m ≤ 1048576) (w : World) (h : Sl .i64 w a n cap xs) (hx : Dig xs x) (h' : Sl .i64 w a' m cap' ys) (hy : Dig ys y) :
    Calls Tryd.prog 36 #[.slice a n cap, .slice a' m cap'] w (ResD w (x * y)) := by
  have gx := hx.2.1
  have gy := hy.2.1
  have hl : xs.length ≤ n := Nat.le_of_eq h.len
  have hl' : ys.length ≤ m := Nat.le_of_eq h'.len
  have hl2 : n ≤ xs.length := Nat.le_of_eq h.len.symm
  have hl2' : m ≤ ys.length := Nat.le_of_eq h'.len.symm
  go_enter Tryd.func36, Tryd.ntmps36
  go_wp2_with (at_make; refine wpList_mk rfl (.tmp 15) (.tmp 15) 75 rfl tyD rfl w.heap.size (n + m + 4) rfl rfl (by omega) (by omega) (by omega) (by decide) (Nat.le_refl _) ?_)
  intro w0 hown0 hb0 hs0
  rw [← nums_replicate] at hown0
  go_wp2
  go_loopw [19] (fun i0 wr => ∃ (i : Nat) (os : List Nat), i ≤ n ∧ i0 = .int .i64 i ∧ MulSt xs ys os i 0 ∧ wr.ownsRow w.heap.size 3 1 (.slice (some ⟨w.heap.size, 0, none⟩) (n + m + 4) (n + m + 4)) (n + m + 4) (nums .i64 os) ∧ Below w.heap.size w wr) (fun i0 _ => n - (intOf i0).toNat)
  case atStart => exact ⟨0, _, by omega, rfl, mul_start h.len h'.len, hown0, hb0⟩
  case round =>
    obtain ⟨i, os, hi, rfl, S, hown, hb⟩ := hrel
    by_cases hlt : i < n
    · go_wp2
      go_loopw [24] (fun k0 wr => ∃ (k : Nat) (os : List Nat), k ≤ m ∧ k0 = .int .i64 k ∧ MulSt xs ys os i k ∧ wr.ownsRow w.heap.size 3 1 (.slice (some ⟨w.heap.size, 0, none⟩) (n + m + 4) (n + m + 4)) (n + m + 4) (nums .i64 os) ∧ Below w.heap.size w wr) (fun k0 _ => m - (intOf k0).toNat)
      case atStart => exact ⟨0, _, by omega, rfl, S, hown, hb⟩
      case round =>
        clear S hown hb os
        obtain ⟨k, os, hk, rfl, S, hown, hb⟩ := hrel
        by_cases hlk : k < m
        · have SS := hid (S.step gx gy (by omega) (by omega))
          have hg := S.le hl hl' hn hm hi hk
          have hoc := own_cell hown (i + k) (by omega)
          have hof := hown.frozenAt (i + k)
          obtain ⟨b, off, ha, hc⟩ := (h.below hb).opened
          obtain ⟨b', off', ha', hc'⟩ := (h'.below hb).opened
          obtain rfl := ha (by omega)
          obtain rfl := ha' (by omega)
          have hcx := hc i hlt
          have hcy := hc' k hlk
          have dx := getD_lt gx i
          have dy := getD_lt gy k
          clear ha ha' hc hc'
          have hst := fun (z : Int) (d : Nat) (hz : z = (d : Int)) => own_store hown (i + k) hz
          have hbs := hb.size
          generalize hd : xs.getD i 0 = d at *
          generalize he : ys.getD k 0 = e at *
          generalize ho : os.getD (i + k) 0 = t at *
          obtain ⟨hp0, hp1⟩ := digit_mul dx dy
          have HST := hid hst
          clear hst S gx gy h h' hx hy hd he ho hown
          go_wp2
          go_region
          go_wp2
          have hs := HST.out ((t : Int) + (d : Int) * (e : Int)) (t + d * e) (by rw [Int.natCast_add, Int.natCast_mul])
          go_roundw
          case rel => exact ⟨k + 1, _, by omega, by go_num, SS.out, hs.1.drew, hb.trans hs.2.drew⟩
          case measure => simp [intOf]; omega
        · obtain rfl : k = m := by omega
          have S2 := mul_next S h'.len
          go_wp2
          go_roundw
          case rel => exact ⟨i + 1, _, by omega, by go_num, S2, hown, hb⟩
          case measure => simp [intOf]; omega
    · obtain rfl : n = i := by omega
      have S2 := mul_car S h.len h'.len hn hm
      have hlim := hid (mul_lim gx gy h.len h'.len)
      clear S h h' hl hl' hl2 hl2' 
      go_wp2
      go_loopw [8, 48] (fun c0 k0 wr => ∃ (k c : Nat) (os : List Nat), k ≤ n + m + 4 ∧ k0 = .int .i64 k ∧ c0 = .int .i64 c ∧ CarSt (n + m + 4) (val xs * val ys) os k c 72057594037927936 ∧ wr.ownsRow w.heap.size 3 1 (.slice (some ⟨w.heap.size, 0, none⟩) (n + m + 4) (n + m + 4)) (n + m + 4) (nums .i64 os) ∧ Below w.heap.size w wr) (fun _ k0 _ => n + m + 4 - (intOf k0).toNat)
      case atStart => exact ⟨0, 0, os, by omega, rfl, rfl, S2, hown, hb⟩
      case round =>
        clear S2 hown hb os
        obtain ⟨k, c, os, hk, rfl, rfl, S, hown, hb⟩ := hrel
        by_cases hlk : k < n + m + 4
        · have SS := hid (S.step hlk (by decide))
          have hoc := own_cell hown k hlk
          have hof := hown.frozenAt k
          have hg := getD_le S.2.2.2.2 k
          have hc := S.2.2.2.1
          have hst := fun (z : Int) (d : Nat) (hz : z = (d : Int)) => own_store hown k hz
          generalize ho : os.getD k 0 = t at *
          have HST := hid hst
          clear hst S gx gy hx hy ho hown
          go_wp2
          have hs := HST.out (((c : Int) + t) % 256) ((c + t) % 256) (by omega)
          go_roundw
          case rel => exact ⟨k + 1, (c + t) / 256, _, by omega, by go_num, by go_num, SS.out, hs.1, hb.trans hs.2⟩
          case measure => simp [intOf]; omega
        · obtain rfl : k = n + m + 4 := by omega
          have hf := S.fin hlim.out
          clear S
          have hsl : Sl .i64 wr (some ⟨w.heap.size, 0, none⟩) (n + m + 4) (n + m + 4) os := sl_of_own hown
          go_wp2_with fail
          refine (trim_walk _ (n + m + 4) (n + m + 4) os _ hsl hf.2).mono ?_
          rintro e w' ⟨⟨v, ys', rfl, hd, hsl⟩, rfl⟩
          rw [hf.1, hx.1, hy.1] at hd
          go_wp2
          go_ret
          exact ⟨_, ys', rfl, hd, hsl, hb⟩
end Go.Proofs.YtllckpcggmfmkaaDoor

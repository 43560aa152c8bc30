/- The reference's numbers as digits: Of. -/
import Derived.Test.YtpncdgogefhjlaaDoorDig
import Derived.Test.YtpncdgogefhjlaaDoorMem
namespace Go.Proofs.YtpncdgogefhjlaaDoor
open Go.RowKit

theorem infoInt : (Tryd.prog.info? 3).map (fun i => (i.zero, i.size, i.bytes)) = some (some (.int .i64 0), 1, 8) := by kernel_rfl
theorem tyD : SliceTy Tryd.prog 79 3 1 8 (.int .i64 0) := .mk' Tryd.underlying79 infoInt rfl (by decide)
/-- the value of a result: a new slice that holds x's digits -/
def ResD (w : World) (x : Nat) (e : Ending) (w' : World) : Prop := ∃ v xs, e = .returned v ∧ Dig xs x ∧ SlV .i64 w' v xs ∧ Below w.heap.size w w'


/-- an old slice that holds x's digits; the world is as it was -/
def RdD (w : World) (x : Nat) (e : Ending) (w' : World) : Prop := (∃ v ys, e = .returned v ∧ Dig ys x ∧ SlV .i64 w v ys) ∧ w = w'

def OfRel (_B x : Nat) (k : Nat) (xs : List Nat) : Prop :=
  k ≤ x ∧ val xs + 256 ^ xs.length * k = x ∧ Dg xs ∧ (xs = [] ∨ 256 ^ (xs.length - 1) ≤ x) ∧ (∀ ys d, xs = ys ++ [d] → k = 0 → d ≠ 0)
theorem OfRel.step {B x k : Nat} {xs : List Nat} (h : OfRel B x k xs) (hk : 0 < k) : OfRel B x (k / 256) (xs ++ [k % 256]) := by
  obtain ⟨h0, h1, h2, h3, h4⟩ := h
  refine ⟨by omega, Dig_of_step x k h1, Dg_snoc h2 (by omega), .inr ?_, ?_⟩
  · simp
    have : 256 ^ xs.length * 1 ≤ 256 ^ xs.length * k := Nat.mul_le_mul_left _ hk
    omega
  · intro ys d he hz
    have := List.append_inj' he rfl
    simp at this
    omega
theorem OfRel.fin {B x : Nat} {xs : List Nat} (h : OfRel B x 0 xs) : Dig xs x := by
  obtain ⟨_, h1, h2, _, h4⟩ := h
  exact ⟨by simpa using h1, h2, fun ys d he => h4 ys d he rfl⟩
theorem OfRel.len {B x k : Nat} {xs : List Nat} (h : OfRel B x k xs) (hx : x < 18446744073709551616) : xs.length ≤ 8 := by
  obtain ⟨_, _, _, h3, _⟩ := h
  rcases h3 with rfl | h3
  · simp
  · apply Nat.le_of_not_lt; intro hl
    have : 256 ^ 8 ≤ 256 ^ (xs.length - 1) := pow256_le (by omega)
    omega

set_option maxHeartbeats 400000 in
theorem of_walk (x : Nat) (hx : x < 18446744073709551616) (w : World) :
    Calls Tryd.prog 28 #[.int .u64 x] w (ResD w x) := by
  go_enter Tryd.func28, Tryd.ntmps28
  go_wp2
  go_loopw [0, 3] (fun x0 v wr => ∃ (k : Nat) (xs : List Nat), x0 = .int .u64 k ∧ OfRel 0 x k xs ∧ wr.ownsRow w.heap.size 3 1 v xs.length (nums .i64 xs) ∧ Below w.heap.size w wr) (fun x0 _ _ => (intOf x0).toNat)
  case atStart => exact ⟨x, [], rfl, ⟨by omega, by simp [val], by simp [Dg], by simp, by simp⟩, World.ownsRow_made _ _ _ (by simp) (by simp) (by simp), (Below.refl _ _).alloc (by simp) _⟩
  case round =>
    obtain ⟨k, xs, rfl, R, hown, hb⟩ := hrel
    have hB := hb.size
    have hl := R.len hx
    by_cases hk : 0 < k
    · have hkx : k ≤ x := R.1
      go_wp2_with (at_builtin; refine wpList_push rfl _ _ 79 rfl tyD w.heap.size hown rfl rfl rfl rfl ?c2 (by decide) hB ?_)
      case c2 => omega
      intro v' w1 hown' hb' _ _
      go_wp2
      go_roundw
      case rel => exact ⟨k / 256, xs ++ [k % 256], rfl, R.step hk, own_snoc hown' (by omega), hb.trans hb'⟩
      case measure => simp [intOf]; omega
    · go_wp2
      go_ret
      obtain rfl : k = 0 := by omega
      exact ⟨_, xs, rfl, R.fin, SlV.of_owns hown, hb⟩

theorem take_step {xs : List Nat} {n k d : Nat} (hd : d = xs.getD (k - 1) 0) (hl : xs.length = n) (hk : k ≤ n) (h0 : 0 < k) : xs.take k = xs.take (k - 1) ++ [d] := by
  obtain ⟨j, rfl⟩ : ∃ j, k = j + 1 := ⟨k - 1, by omega⟩
  rw [List.take_succ_eq_append_getElem (by omega)]
  simp at hd
  rw [List.getElem?_eq_getElem (by omega)] at hd
  simp [hd]
theorem trim_step {xs : List Nat} {n k : Nat} (hd : 0 = xs.getD (k - 1) 0) (hl : xs.length = n) (hk : k ≤ n) (h0 : 0 < k) (hv : Hid (val (xs.take k) = val xs)) : Hid (val (xs.take (k - 1)) = val xs) := by
  have h := hv.out
  rw [take_step hd hl hk h0, val_snoc] at h
  exact hid (by omega)
theorem trim_end {xs : List Nat} {n k d : Nat} (hd : d = xs.getD (k - 1) 0) (hl : xs.length = n) (hk : k ≤ n) (h0 : 0 < k) (hz : ¬ d = 0) (hv : Hid (val (xs.take k) = val xs)) (hg : Dg xs) : Dig (xs.take k) (val xs) := by
  refine ⟨hv.out, Dg_take hg k, fun ys e he => ?_⟩
  rw [take_step hd hl hk h0] at he
  have := List.append_inj' he rfl
  simp at this
  omega
theorem trim_nil {xs : List Nat} (hv : Hid (val (xs.take 0) = val xs)) : Dig [] (val xs) := by
  rw [← hv.out]; exact Dig.nil
set_option maxHeartbeats 400000 in
theorem trim_walk (a : Option Addr) (n cap : Nat) (xs : List Nat) (w : World) (h : Sl .i64 w a n cap xs) (hd : Dg xs) :
    Calls Tryd.prog 37 #[.slice a n cap] w (RdD w (val xs)) := by
  have HS := hid h
  have HL := hid h.len
  have hcap := h.2.1
  have hm' : cap ≤ 9223372036854775807 := by have h2 := h.2.2.1; unfold maxLen at h2; omega
  obtain ⟨b, off, ha, hc⟩ := h.opened
  go_enter Tryd.func37, Tryd.ntmps37
  go_wp2
  go_loop [0] (fun v => ∃ k : Nat, k ≤ n ∧ v = .slice a k cap ∧ Hid (val (xs.take k) = val xs)) (fun v => match v with | .slice _ k _ => k | _ => 0)
  case atStart => exact ⟨n, by omega, rfl, by rw [← HL.out, List.take_length]; rfl⟩
  case round =>
    obtain ⟨k, hk, rfl, hv⟩ := hrel
    by_cases h0 : 0 < k
    · obtain rfl := ha (by omega)
      obtain ⟨d, hdd⟩ : ∃ d, d = xs.getD (k - 1) 0 := ⟨_, rfl⟩
      have hcell := hc (k - 1) (by omega)
      rw [← hdd] at hcell
      have HD := hid hdd; clear hdd hc
      have hk1 : ((k : Int) - 1).toNat = k - 1 := by omega
      by_cases hz : d = 0
      · subst hz
        go_wp2
        go_round
        case rel => exact ⟨k - 1, by omega, rfl, trim_step HD.out HL.out (by omega) h0 hv⟩
        case measure => simp; omega
      · have hz' : ((d : Int) == 0) = false := by simp; omega
        go_wp2
        go_ret
        exact ⟨⟨_, xs.take k, rfl, trim_end HD.out HL.out hk h0 hz hv hd, (HS.out.take hk).toV⟩, rfl⟩
    · obtain rfl : k = 0 := by omega
      go_wp2
      go_ret
      exact ⟨⟨_, [], rfl, trim_nil hv, (Sl.nilS _ _ HS.out.2.2.1 HS.out.2.2.2.1).toV⟩, rfl⟩
end Go.Proofs.YtpncdgogefhjlaaDoor

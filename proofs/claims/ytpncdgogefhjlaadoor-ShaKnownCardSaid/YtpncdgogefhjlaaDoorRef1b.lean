/- The reference's numbers as digits: Cmp. -/
import Derived.Test.YtpncdgogefhjlaaDoorRef1a
namespace Go.Proofs.YtpncdgogefhjlaaDoor
open Go.RowKit

/-- a number; the world is as it was, but for draws -/
def IntQ (w : World) (r : Int) (e : Ending) (w' : World) : Prop := e = .returned (.int .i64 r) ∧ Qt w w'

theorem cmp_fin {xs ys : List Nat} {n x y j d d' : Nat} (hx : Dig xs x) (hy : Dig ys y) (hl : xs.length = n) (hl' : ys.length = n) (hj : (j : Int) < n) (hd : d = xs.getD j 0) (hd' : d' = ys.getD j 0)
    (he : Hid (Hid (xs.drop ((j : Int) + 1).toNat = ys.drop ((j : Int) + 1).toNat))) :
    Hid (d < d' → cmpI x y = -1) ∧ Hid (((d : Int) != (d' : Int)) = true → ¬ d < d' → cmpI x y = 1) ∧ Hid (((d : Int) != (d' : Int)) = false → xs.drop ((j : Int) - 1 + 1).toNat = ys.drop ((j : Int) - 1 + 1).toNat) := by
  have he' := he.out.out
  rw [show ((j : Int) + 1).toNat = j + 1 from by omega] at he'
  obtain ⟨rfl, gx, _⟩ := hx
  obtain ⟨rfl, gy, _⟩ := hy
  subst hd hd'
  refine ⟨fun h => cmpI_lt (val_lt_at gx (by omega) (by omega) he' h), fun h1 h2 => cmpI_gt (val_lt_at gy (by omega) (by omega) he'.symm (by simp only [bne_iff_ne] at h1; omega)), fun h => ?_⟩
  simp only [bne_eq_false_iff_eq] at h
  have h := Int.ofNat.inj h
  rw [show ((j : Int) - 1 + 1).toNat = j from by omega, drop_eq_cons (by omega), drop_eq_cons (xs := ys) (by omega), h, he']
theorem cmp_same {xs ys : List Nat} {x y : Nat} (hx : Dig xs x) (hy : Dig ys y) (he : xs.drop ((-1 : Int) + 1).toNat = ys.drop ((-1 : Int) + 1).toNat) : cmpI x y = 0 := by
  simp at he
  subst he
  rw [← hx.1, ← hy.1]
  exact cmpI_eq _

set_option maxHeartbeats 400000 in
theorem cmp_walk (a a' : Option Addr) (n m cap cap' x y : Nat) (xs ys : List Nat) (hn : n ≤ 4294967296) (hm : m ≤ 4294967296) (w : World) (h : Sl .i64 w a n cap xs) (hx : Dig xs x) (h' : Sl .i64 w a' m cap' ys) (hy : Dig ys y) :
    Calls Tryd.prog 30 #[.slice a n cap, .slice a' m cap'] w (IntQ w (cmpI x y)) := by
  have HL := hid h.len
  have HL' := hid h'.len
  obtain ⟨b, off, ha, hc⟩ := h.opened
  obtain ⟨b', off', ha', hc'⟩ := h'.opened
  clear h h'
  by_cases h1 : n < m
  · have hlt : cmpI x y = -1 := cmpI_lt (hx.len_mono hy (by rw [HL.out, HL'.out]; exact h1))
    rw [hlt]
    go_enter Tryd.func30, Tryd.ntmps30
    go_wp2
    go_ret
    exact ⟨rfl, Qt.refl _⟩
  by_cases h2 : m < n
  · have hlt : cmpI x y = 1 := cmpI_gt (hy.len_mono hx (by rw [HL.out, HL'.out]; exact h2))
    rw [hlt]
    go_enter Tryd.func30, Tryd.ntmps30
    go_wp2
    go_ret
    exact ⟨rfl, Qt.refl _⟩
  obtain rfl : n = m := by omega
  go_enter Tryd.func30, Tryd.ntmps30
  go_wp2
  go_loopw [5] (fun v wr => ∃ i : Int, -1 ≤ i ∧ i < n ∧ v = .int .i64 i ∧ Hid (xs.drop (i + 1).toNat = ys.drop (i + 1).toNat) ∧ Qt w wr) (fun v _ => (intOf v + 1).toNat)
  case atStart => exact ⟨(n : Int) - 1, by omega, by omega, rfl, hid (by rw [List.drop_of_length_le (by rw [HL.out]; omega), List.drop_of_length_le (by rw [HL'.out]; omega)]), Qt.refl _⟩
  case round =>
    obtain ⟨i, hi1, hi2, rfl, hdr, q, rfl⟩ := hrel
    have hq : Qt w (w.drewN q) := ⟨q, rfl⟩
    by_cases hi : 0 ≤ i
    · obtain ⟨j, rfl⟩ := Int.eq_ofNat_of_zero_le hi
      obtain rfl := ha (by omega)
      obtain rfl := ha' (by omega)
      have hcx := hc j (by omega)
      have hcy := hc' j (by omega)
      obtain ⟨d, hd⟩ : ∃ d, d = xs.getD j 0 := ⟨_, rfl⟩
      obtain ⟨d', hd'⟩ : ∃ d, d = ys.getD j 0 := ⟨_, rfl⟩
      rw [← hd] at hcx
      rw [← hd'] at hcy
      have HD := hid hd; clear hd hc
      have HD' := hid hd'; clear hd' hc'
      have fin := cmp_fin hx hy HL.out HL'.out hi2 HD.out HD'.out (hid hdr)
      go_wp2
      go_quiet (fail)
      go_wp2
      · go_quiet (fail)
        go_wp2
        · go_ret
          rw [fin.1.out ‹_›]
          exact ⟨rfl, (hq.dN _).dN _⟩
        · go_ret
          rw [fin.2.1.out ‹_› ‹_›]
          exact ⟨rfl, (hq.dN _).dN _⟩
      · go_roundw
        case rel => exact ⟨(j : Int) - 1, by omega, by omega, rfl, hid (fin.2.2.out ‹_›), _, rfl⟩
        case measure => simp [intOf]
    · obtain rfl : i = -1 := by omega
      go_wp2
      go_ret
      rw [cmp_same hx hy hdr.out]
      exact ⟨rfl, hq⟩
end Go.Proofs.YtpncdgogefhjlaaDoor
